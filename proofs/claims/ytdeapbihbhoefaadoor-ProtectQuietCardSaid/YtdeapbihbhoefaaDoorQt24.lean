/- Part 24 of the texts of the claim: N4, LOpP, LQtP, LQt_0, LQt_1, LQt_2. -/
import Derived.Test.YtdeapbihbhoefaaDoorQt23
import Derived.Test.YtdeapbihbhoefaaDoorQt18
import Derived.Test.YtdeapbihbhoefaaDoorQt22
import Derived.Test.YtdeapbihbhoefaaDoorQt15
import Derived.Test.YtdeapbihbhoefaaDoorQt14

/- The reference's Behind. -/
namespace Go.Proofs.YtdeapbihbhoefaaDoor
open Go.RowKit
open Calm (bcell Blk)

theorem run_append_none (W : World) (b : Addr) (A : Option Addr) (c : Nat) (ty : TypeId) : (Builtin.append_ #[22, 22] ty #[.slice (some b) 1 1, .slice A 0 c]).run Tryd.prog W = .ok (.slice (some b) 1 1) W := by
  obtain ⟨i0, hi, hz0, hz1, hz2⟩ := info_parts Tryd.infoI
  have hl : ∀ (x : Addr), (loadCells x 0).run Tryd.prog W = .ok #[] W := fun x => by simpa using run_loadCells_list (P := Tryd.prog) W x [] (by simp)
  cases A <;> simp [Builtin.append_, run_underlying Tryd.underlying22, sizeOf, typeInfo, zeroValue, hi, hz0, hz1, Builtin.lenOf, Builtin.firstCells, storeCells, hl]
/-- append([]int{y}, l...). -/
theorem wpList_appY {w : World} {ops : Array Oper} {rest : List Oper} {o : Oper} {a : Act} {Q : Exit → Act → World → Prop} (hgd : o.guard = none) (s x : Operand)
    (ho : o.op = .call { callee := .builtin .append, args := #[s, x], argTypes := #[22, 22] }) (g n c : Nat) (A : Option Addr) (y : Int) (xs : List Int) (hn : n = xs.length)
    (hs : a.eval s = .slice (some ⟨g, 0, none⟩) 1 1) (hx : a.eval x = .slice A n c) (hg : w.heap[g]? = some (.cells #[(.int .i64 (y))] 3 (0, 0))) (h5 : n ≤ 100000) (hC : Cells w A xs)
    (h : ∀ B d w', Below w.heap.size w w' → KSI (n + 1) (y :: xs) (.slice B (n + 1) d) w' → n + 1 ≤ d → d ≤ maxLen → (∀ p, B = some p → g ≤ p.block) → wpList Tryd.prog ops Q rest (a.put o.dst (.slice B (n + 1) d)) w') : wpList Tryd.prog ops Q (o :: rest) a w := by
  obtain ⟨i0, hi, hz0, hz1, hz2⟩ := info_parts Tryd.infoI
  have hK0 := Calm.Blk.row hg
  refine wpList_plain hgd fun K hK => ?_
  rcases Nat.eq_zero_or_pos n with h0 | h0
  · subst h0
    obtain rfl : xs = [] := List.eq_nil_of_length_eq_zero hn.symm
    have hrun := run_append_none w ⟨g, 0, none⟩ A c o.type
    unfold Oper.wp
    simp [execOp, ho, resolve, invoke, builtin, hs, hx, hrun, Result.andThen]
    refine hK _ _ (h (some ⟨g, 0, none⟩) 1 w (Below.refl _ _) ⟨_, _, rfl, ?_, fun p hp => by cases hp; exact ⟨_, hg⟩⟩ (by omega) (by unfold maxLen; omega) (fun p hp => by cases hp; exact Nat.le_refl _))
    exact Cells.row hg
  · obtain ⟨b, off, rfl, hb, hc⟩ := hC (by omega)
    obtain ⟨v', w', hrun, r1, r2⟩ := run_append_arg_grows (P := Tryd.prog) w 22 o.type 3 i0 _ 1 8 Tryd.underlying22 hi hz0 hz1 hz2 rfl (by decide) ⟨g, 0, none⟩ 1 1 [(.int .i64 (y))] (by simp) (by intro j u hj; match j, hj with | 0, hj => (simp at hj; subst hj; exact hK0.cell 0 _ rfl)) ⟨b, off, none⟩ n c (xs.map (Value.int .i64)) (by simp; omega) (fun j v hj => cells_src hc j v hj) (by omega) (by unfold maxLen; omega) (by omega)
    unfold Oper.wp
    simp [execOp, ho, resolve, invoke, builtin, hs, hx, hrun, Result.andThen]
    have r1' : w'.ownsRow w.heap.size 3 1 v' (n + 1) ((y :: xs).map (Value.int .i64)) := by simpa [Nat.add_comm] using r1
    obtain ⟨B, d, rfl⟩ := own_slice r1'
    have hd : n + 1 ≤ d ∧ d ≤ maxLen := by
      rcases r1'.2 with ⟨e, _⟩ | ⟨g', cap, cur, e, _, _, h3, h4, _⟩
      · cases e
      · cases e
        exact ⟨h3, h4⟩
    have hfr : ∀ p, B = some p → g ≤ p.block := fun p hp => by
      have hlt := hK0.lt
      subst hp
      rcases r1'.2 with ⟨e, _⟩ | ⟨g', cap, cur, e, h2, _⟩
      · cases e
      · cases e
        show g ≤ g'
        omega
    exact hK _ _ (h B d w' ((Below.refl w.heap.size w).grown r2 (Nat.le_refl _) (fun k hk => by cases hk)) (own_ksi (by simp [hn]) r1') hd.1 hd.2 hfr)
/-- the excursion, tap by tap. -/
def exS (ts al : List Int) : Nat → Int
  | 0 => 0
  | k + 1 => exS ts al k + ts.getD k 0 * al.getD k 0
theorem exS_exK (ts ps : List Int) (y : Int) : ∀ k, exS ts (y :: ps) (k + 1) = exK ts ps y k
  | 0 => by simp [exS, exK]
  | k + 1 => by
    show exS ts (y :: ps) (k + 1) + ts.getD (k + 1) 0 * (y :: ps).getD (k + 1) 0 = _
    rw [exS_exK ts ps y k]
    simp [exK]
theorem exS_bd {ts al : List Int} (h1 : inB 64 ts) (h2 : inB 2048 al) : ∀ k : Nat, -(131072 * (k : Int)) ≤ exS ts al k ∧ exS ts al k ≤ 131072 * (k : Int)
  | 0 => by simp [exS]
  | k + 1 => by
    have h3 := exS_bd h1 h2 k
    have h4 := mul_bd (inB_get h1 (by omega) k) (inB_get h2 (by omega) k)
    simp only [exS]
    omega

theorem bcellB {B : Nat} {W w1 : World} (hb : Below B W w1) : (∀ b o, b < B → w1.cell? ⟨b, o, none⟩ = W.cell? ⟨b, o, none⟩) ∧ (∀ b o, b < B → w1.frozen? ⟨b, o, none⟩ = W.frozen? ⟨b, o, none⟩) :=
  ⟨fun b o h => hb.cell (p := ⟨b, o, none⟩) h, fun b o h => hb.frozen (p := ⟨b, o, none⟩) h⟩
theorem Cells.takeN {w : World} {A : Option Addr} {zs : List Int} (h : Cells w A zs) (n : Nat) : Cells w A (zs.take n) := by
  intro h0
  obtain ⟨b, o, hA, hl, hc⟩ := h (by simp at h0; omega)
  refine ⟨b, o, hA, hl, fun k hk => ?_⟩
  have hk2 : k < n ∧ k < zs.length := by simp at hk; omega
  rw [hc k hk2.2]
  simp [List.getD, hk2.1]
set_option maxRecDepth 100000 in
theorem run_storeR {W : World} {g : Nat} {u0 u1 u2 : Value} {h lv : Int} {B : Option Addr} {n c : Nat} (hg : W.heap[g]? = some (.cells #[u0, u1, u2] 26 (0, 0))) {o : Oper} {ρ : Operand → Value} {p v : Tmp} (hop : o.op = .store 26 (.tmp p) (.tmp v))
    (hp : ρ (.tmp p) = .pointer (some ⟨g, 0, none⟩)) (hv : ρ (.tmp v) = .agg #[(.int .i64 (h)), (.int .i64 (lv)), .slice B n c]) : (execOp ρ o).run Tryd.prog W = .ok .skip (((W.setCell ⟨g, 0, none⟩ (.int .i64 (h))).setCell ⟨g, 1, none⟩ (.int .i64 (lv))).setCell ⟨g, 2, none⟩ (.slice B n c)) := by
  have K := Calm.Blk.row hg
  obtain ⟨c0, c1, c2, l, f⟩ := K.o3
  have f0 := K.f 0
  have f1 := K.f 1
  have f2 := K.f 2
  clear K
  obtain ⟨dst, op, type, pos, after, guard⟩ := o
  simp only at hop
  subst hop
  go_simp
/-- a state whose last outputs lie in a row of integers, in no block below b. -/
def KTN (b : Nat) (h lv : Int) (n : Nat) (l : List Int) : Rel.Know := fun u W => ∃ B c, u = .agg #[(.int .i64 (h)), (.int .i64 (lv)), .slice B n c] ∧ Cells W B l ∧ (∀ p, B = some p → IntRow W p) ∧ ∀ p, B = some p → b ≤ p.block
theorem KTN.ik (b : Nat) (h lv : Int) (n : Nat) (l : List Int) : IStable (KTN b h lv n l) := fun _ _ _ ⟨B, c, h1, h2, h3, h4⟩ hk => ⟨B, c, h1, h2.keep h3 hk, fun p hp => (h3 p hp).keep hk, h4⟩
theorem KTN.kti {b : Nat} {h lv : Int} {n : Nat} {l : List Int} {u : Value} {W : World} (q : KTN b h lv n l u W) : KTI h lv n l u W := by
  obtain ⟨B, c, h1, h2, h3, _⟩ := q
  exact ⟨B, c, h1, h2, h3⟩
namespace RelH
open Rel (ons Know)
/-- the given block is what it will be. -/
def DoneG (T : TypeId) (K : Know) (g : Nat) : DK := fun _ _ W => ∃ cs, W.heap[g]? = some (.cells cs T (0, 0)) ∧ K (.agg cs) W
theorem DoneG.st {Ty : TypeId} {K : Know} {g B : Nat} (hK : IStable K) : Stable (Sty Ty K B) (DoneG Ty K g) := by
  rintro x u W W' ⟨cs, h3, h4⟩ hS
  rcases hS.block g (Array.getElem?_eq_some_iff.1 h3).1 with e | ⟨_, _, cs', e, hk⟩
  · exact ⟨cs, e.trans h3, hK _ _ _ h4 hS.keep⟩
  · exact ⟨cs', e, hk⟩
variable {DS : List Tmp} {w0 : World} {a0 : Act} {T : Ctx → Prop} {Γ : Ctx} {o : Oper} {rest : List Oper}
/-- a state stored into a block that lay there. -/
theorem storeB {B g b : Nat} {h lv : Int} {n c : Nat} {l : List Int} {Bp : Option Addr} {cs0 : Array Value} (p v : Tmp) (jv : Nat) (hcell : Cells w0 Bp l) (hrow : ∀ q, Bp = some q → IntRow w0 q) (hbb : ∀ q, Bp = some q → b ≤ q.block) (hp : p ∉ DS) (hpe : a0.eval (.tmp p) = .pointer (some ⟨g, 0, none⟩)) (hB : B ≤ g) (hg0 : w0.heap[g]? = some (.cells cs0 26 (0, 0))) (hcs : cs0.size = 3)
    (hop : o.op = .store 26 (.tmp p) (.tmp v)) (hv : (ons o).contains jv = true)
    (hΓv : Γ[jv]? = some (some v, fun _ u _ => u = .agg #[(.int .i64 (h)), (.int .i64 (lv)), .slice Bp n c])) (hg : GOK3 Γ o)
    (hn : walk3 (Sty 26 (KTN b h lv n l) B) Tryd.prog DS w0 a0 T (Γ ++ [(o.dst, DoneG 26 (KTN b h lv n l) g)]) rest) : walk3 (Sty 26 (KTN b h lv n l) B) Tryd.prog DS w0 a0 T Γ (o :: rest) :=
  ⟨_, DoneG.st (KTN.ik b h lv n l), fun x y he v W h1 => h1, hg, fun a W x hb hd hbase K Q hK => by
    have e1 : a.eval (.tmp v) = .agg #[(.int .i64 (h)), (.int .i64 (lv)), .slice Bp n c] := (dep_at hd jv hv hΓv).2
    obtain ⟨cs, h3, h4⟩ : ∃ cs, W.heap[g]? = some (.cells cs 26 (0, 0)) ∧ cs.size = 3 := by
      rcases hb.block g (Array.getElem?_eq_some_iff.1 hg0).1 with e | ⟨_, _, cs, e, hk⟩
      · exact ⟨cs0, e.trans hg0, hcs⟩
      · obtain ⟨_, _, e2, _⟩ := hk
        cases e2
        exact ⟨_, e, rfl⟩
    obtain ⟨cl⟩ := cs
    match cl, h4 with
    | [u0, u1, u2], _ =>
    have hc := hcell.keep hrow hb.keep
    have hr : ∀ q, Bp = some q → IntRow W q := fun q hq => (hrow q hq).keep hb.keep
    have hrun := run_storeR h3 hop ((hbase p hp).trans hpe) e1
    have hne : ∀ p, Bp = some p → p.block ≠ g := fun p hp => (hr p hp).ne h3 (by decide)
    have hg' := set3_heap (.int .i64 (h)) (.int .i64 (lv)) (.slice Bp n c) h3
    have hkt : KTN b h lv n l (.agg #[(.int .i64 (h)), (.int .i64 (lv)), .slice Bp n c]) (((W.setCell ⟨g, 0, none⟩ (.int .i64 (h))).setCell ⟨g, 1, none⟩ (.int .i64 (lv))).setCell ⟨g, 2, none⟩ (.slice Bp n c)) :=
      ⟨Bp, c, rfl, ((hc.sets (fun _ => hne) 0 _).sets (fun _ => hne) 1 _).sets (fun _ => hne) 2 _, fun p hp => (((hr p hp).sets (hne p hp) 0 _).sets (hne p hp) 1 _).sets (hne p hp) 2 _, hbb⟩
    unfold Oper.wp
    rw [hrun]
    refine hK undef _ ⟨_, hg', hkt⟩ ⟨rfl, rfl, rfl, by simp [World.setCell], by decide, fun k hk => ?_⟩
    rcases Nat.decEq k g with hkg | rfl
    · exact .inl (by rw [Below.heap_setCell _ _ _ _ hkg, Below.heap_setCell _ _ _ _ hkg, Below.heap_setCell _ _ _ _ hkg])
    · exact .inr ⟨hB, ⟨_, h3⟩, _, hg', hkt⟩, hn⟩
end RelH

set_option maxRecDepth 100000 in
set_option maxHeartbeats 4000000 in
theorem rBehind_walk {lk ht rc h lv y : Int} {ts gs ps : List Int} {M L N : Nat} {A1 A2 A3 : Option Addr} {c1 c2 c3 : Nat} {w : World} (hlk : 1 ≤ lk ∧ lk ≤ 8) (hh : 0 ≤ h ∧ h ≤ 1099511627776) (hM : M = ts.length) (hN : N = ps.length) (hMN : M = N + 1) (hM8 : M ≤ 1000) (htb : inB 64 ts) (hpb : inB 2048 ps) (hy : -2048 ≤ y ∧ y ≤ 2048)
    (hT : Cells w A1 ts) (hG : Cells w A2 gs) (hP : Cells w A3 ps) :
    Calls Tryd.prog 36 #[.agg #[(.int .i64 (lk)), (.int .i64 (ht)), .slice A1 M c1, (.int .i64 (rc)), .slice A2 L c2], .agg #[(.int .i64 (h)), (.int .i64 (lv)), .slice A3 N c3], (.int .i64 (y))] w (KP (K2 (KTN w.heap.size (coolF lk h + y * y) lv N (pushL ps y)) (KV (.int .i64 (exF ts ps y)))) w) := by
  have HU := Lib.hid (show KG lk ht rc M ts L gs (.agg #[(.int .i64 (lk)), (.int .i64 (ht)), .slice A1 M c1, (.int .i64 (rc)), .slice A2 L c2]) w from ⟨_, _, _, _, rfl, hT, hG⟩)
  have HCO : Hid (∀ {v : Value} W, KG lk ht rc M ts L gs v W → Calls Tryd.prog 83 #[v, (.int .i64 (h))] W (KP (KV (.int .i64 (coolF lk h))) W)) := Lib.hid (fun W q => rCooled_K hlk hh q)
  have HT := Lib.hid hT
  have HP := Lib.hid hP
  have HM := Lib.hid hM
  have HN := Lib.hid hN
  obtain ⟨y1, y2⟩ := hy
  have hal : inB 2048 (y :: ps) := by
    intro x hx
    rcases List.mem_cons.1 hx with e | hx
    · subst e; exact ⟨y1, y2⟩
    · exact hpb x hx
  have HEB := Lib.hid (exS_bd htb hal)
  have HTB : Hid (∀ k : Nat, -64 ≤ ts.getD k 0 ∧ ts.getD k 0 ≤ 64) := Lib.hid (fun k => inB_get htb (by omega) k)
  have HAB : Hid (∀ k : Nat, -2048 ≤ (y :: ps).getD k 0 ∧ (y :: ps).getD k 0 ≤ 2048) := Lib.hid (fun k => inB_get hal (by omega) k)
  have hEX : exS ts (y :: ps) M = exF ts ps y := by rw [hMN, exS_exK, hN]; rfl
  have HEX := Lib.hid hEX
  have HMN := Lib.hid hMN
  have hN1 : N ≤ 1000 := by omega
  clear hT hG hP hM hN hal htb hpb hEX hlk hMN
  go_enter Tryd.func36, Tryd.ntmps36
  go_wp2_with (at_builtin; refine wpList_appY rfl _ _ rfl (w.heap.size + 3) N c3 A3 y ps HN.out rfl rfl ?hrow (by omega) ?hcl ?_)
  case hrow => (first | exact heap_new (by simp) | simp)
  case hcl => exact HP.out.below (by (repeat (first | (with_reducible exact Below.refl _ _) | ((with_reducible refine Below.setCell ?_ ?_ _); rotate_left 1; focus (first | (simp; done) | (simp; omega) | (simp at *; omega))) | ((with_reducible refine Below.alloc ?_ ?_ _); rotate_left 1; focus (first | (simp; done) | (simp; omega) | (simp at *; omega))) | (with_reducible refine Below.drew ?_) | ((with_reducible refine Calm.step (by assumption) ?_ ?_); rotate_left 1; focus (first | (simp; done) | (simp; omega) | (simp at *; omega))))))
  intro B d w1 hb1 hk1 hd1 hd2 hfr
  have hfr2 : ∀ p, B = some p → w.heap.size ≤ p.block := fun p hp => by have := hfr p hp; omega
  have HFR0 := Lib.hid hfr2
  clear hfr hfr2
  have bg := Lib.hid (show Blk w1 w.heap.size #[(.int .i64 (lk)), (.int .i64 (ht)), .slice A1 M c1, (.int .i64 (rc)), .slice A2 L c2] from Blk.below (by (repeat (first | ((with_reducible refine Blk.at_ ?_); focus (first | rfl | (simp; done) | (simp; omega))) | (with_reducible refine Blk.alloc ?_ _) | (with_reducible refine Blk.below ?_ (by with_reducible assumption)) | (with_reducible refine Blk.drew ?_)))) (hb1.mono (by simp)))
  have bs := Lib.hid (show Blk w1 (w.heap.size + 1) #[(.int .i64 (h)), (.int .i64 (lv)), .slice A3 N c3] from Blk.below (by (repeat (first | ((with_reducible refine Blk.at_ ?_); focus (first | rfl | (simp; done) | (simp; omega))) | (with_reducible refine Blk.alloc ?_ _) | (with_reducible refine Blk.below ?_ (by with_reducible assumption)) | (with_reducible refine Blk.drew ?_)))) (hb1.mono (by simp)))
  have br := Lib.hid (show w1.heap[w.heap.size + 2]? = some (.cells #[(.int .i64 (0)), (.int .i64 (0)), .slice none 0 0] 26 (0, 0)) from by
    exact (hb1.block _ (by omega)).trans ((((Below.refl _ _).alloc (Nat.le_refl _) _).block _ (by simp)).trans (heap_new (by simp))))
  have HB1 := Lib.hid (show Below w.heap.size w w1 from Below.trans (by (repeat (first | (with_reducible exact Below.refl _ _) | ((with_reducible refine Below.setCell ?_ ?_ _); rotate_left 1; focus (first | (simp; done) | (simp; omega) | (simp at *; omega))) | ((with_reducible refine Below.alloc ?_ ?_ _); rotate_left 1; focus (first | (simp; done) | (simp; omega) | (simp at *; omega))) | (with_reducible refine Below.drew ?_) | ((with_reducible refine Calm.step (by assumption) ?_ ?_); rotate_left 1; focus (first | (simp; done) | (simp; omega) | (simp at *; omega)))))) (hb1.mono (by omega)))
  have hz1 : w.heap.size + 4 ≤ w1.heap.size := by have h1 := hb1.size; simp only [World.alloc, Array.size_push] at h1; omega
  have HK1 := Lib.hid hk1
  have T1 := Lib.hid (HT.out.below HB1.out)
  have U1 := Lib.hid (KG.st _ _ _ _ _ _ _ _ _ _ HU.out HB1.out)
  clear hb1 hk1 HT HP

  go_wp2
  obtain ⟨f0, f1, f2, f3, f4, fl, -⟩ := bg.out.o5
  go_loopw [9, 10] (fun s i wr => ∃ k : Nat, k ≤ M ∧ i = (.int .i64 ((k : Int))) ∧ s = (.int .i64 (exS ts (y :: ps) k)) ∧ Below w1.heap.size w1 wr) (fun _ i _ => M - (intOf i).toNat)
  case atStart => exact ⟨0, Nat.zero_le _, rfl, rfl, by (repeat (first | (with_reducible exact Below.refl _ _) | ((with_reducible refine Below.setCell ?_ ?_ _); rotate_left 1; focus (first | (simp; done) | (simp; omega) | (simp at *; omega))) | ((with_reducible refine Below.alloc ?_ ?_ _); rotate_left 1; focus (first | (simp; done) | (simp; omega) | (simp at *; omega))) | (with_reducible refine Below.drew ?_) | ((with_reducible refine Calm.step (by assumption) ?_ ?_); rotate_left 1; focus (first | (simp; done) | (simp; omega) | (simp at *; omega)))))⟩
  case round =>
    obtain ⟨k, hk, rfl, rfl, hbr⟩ := hrel
    have HBr := Lib.hid hbr
    have bgr := Lib.hid (bg.out.below hbr)
    obtain ⟨e1, e2⟩ := HEB.out k
    have HS2 := Lib.hid (show exS ts (y :: ps) (k + 1) = exS ts (y :: ps) k + ts.getD k 0 * (y :: ps).getD k 0 from rfl)
    obtain ⟨s, hs⟩ : ∃ s, s = exS ts (y :: ps) k := ⟨_, rfl⟩
    rw [← hs] at e1 e2 HS2 ⊢
    have HSK := Lib.hid hs
    clear hs f0 f1 f2 f3 f4 fl hbr
    obtain ⟨f0, f1, f2, f3, f4, fl, -⟩ := bgr.out.o5
    by_cases hlt : k < M
    · obtain ⟨b1, o1, hA, hbl, hcell⟩ := (T1.out.below HBr.out) (by rw [← HM.out]; omega)
      subst hA
      have hck := hcell k (by rw [← HM.out]; exact hlt)
      obtain ⟨B', d', hB', hKC⟩ := ((KSI.ik _ _).st _ _ _ HK1.out HBr.out).cells
      cases hB'
      obtain ⟨b2, o2, hA, hbl2, hcell2⟩ := hKC (by simp)
      subst hA
      have hck2 := hcell2 k (by have h1 := HN.out; have h2 := HMN.out; simp only [List.length_cons]; omega)
      obtain ⟨t1, t2⟩ := HTB.out k
      obtain ⟨u1, u2⟩ := HAB.out k
      have m := mul_bd (a := ts.getD k 0) (b := (y :: ps).getD k 0) (A := 64) (B := 2048) ⟨t1, t2⟩ ⟨u1, u2⟩
      obtain ⟨p, hp⟩ : ∃ p, p = ts.getD k 0 * (y :: ps).getD k 0 := ⟨_, rfl⟩
      rw [← hp] at m HS2
      have hp' := hp.symm
      obtain ⟨xt, hxt⟩ : ∃ xt, xt = ts.getD k 0 := ⟨_, rfl⟩
      obtain ⟨xa, hxa⟩ : ∃ xa, xa = (y :: ps).getD k 0 := ⟨_, rfl⟩
      rw [← hxt] at hck t1 t2 hp'
      rw [← hxa] at hck2 u1 u2 hp'
      obtain ⟨m1, m2⟩ := m
      have hlt2 : (k : Int) < (N : Int) + 1 := by have := HMN.out; omega
      clear hcell hcell2 hKC hp hxt hxa
      go_wp2
      refine Rel.region3 12 (by kernel_rfl) (by kernel_rfl) (by kernel_rfl) ?_
      simp only [List.take_succ_cons, List.take_zero, List.drop_succ_cons, List.drop_zero, List.filterMap_cons, List.filterMap_nil]
      (apply Rel.op3; (focus (first | exact Rel.gno rfl | exact Rel.gyes _ true _ rfl rfl rfl | exact Rel.gyes _ false _ rfl rfl rfl)); (focus (intro a W hb hd hbase; obtain ⟨hc, hf⟩ := bcell hb; clear hb hf; simp [Rel.deps, Rel.dep1, Rel.ons, Region.binds, Act.eval, KV] at hd; simp only [Act.eval, List.mem_cons, List.not_mem_nil, not_or, and_imp, or_false, Array.getD_eq_getD_getElem?] at hbase; go_simp; (try go_bits); (try rfl); done)); (try simp only [List.nil_append, List.cons_append]))
      (apply Rel.op3; (focus (first | exact Rel.gno rfl | exact Rel.gyes _ true _ rfl rfl rfl | exact Rel.gyes _ false _ rfl rfl rfl)); (focus (intro a W hb hd hbase; obtain ⟨hc, hf⟩ := bcell hb; clear hb hf; simp [Rel.deps, Rel.dep1, Rel.ons, Region.binds, Act.eval, KV] at hd; simp only [Act.eval, List.mem_cons, List.not_mem_nil, not_or, and_imp, or_false, Array.getD_eq_getD_getElem?] at hbase; go_simp; (try go_bits); (try rfl); done)); (try simp only [List.nil_append, List.cons_append]))
      (apply Rel.op3; (focus (first | exact Rel.gno rfl | exact Rel.gyes _ true _ rfl rfl rfl | exact Rel.gyes _ false _ rfl rfl rfl)); (focus (intro a W hb hd hbase; obtain ⟨hc, hf⟩ := bcell hb; clear hb hf; simp [Rel.deps, Rel.dep1, Rel.ons, Region.binds, Act.eval, KV] at hd; simp only [Act.eval, List.mem_cons, List.not_mem_nil, not_or, and_imp, or_false, Array.getD_eq_getD_getElem?] at hbase; go_simp; (try go_bits); (try rfl); done)); (try simp only [List.nil_append, List.cons_append]))
      (apply Rel.op3; (focus (first | exact Rel.gno rfl | exact Rel.gyes _ true _ rfl rfl rfl | exact Rel.gyes _ false _ rfl rfl rfl)); (focus (intro a W hb hd hbase; obtain ⟨hc, hf⟩ := bcell hb; clear hb hf; simp [Rel.deps, Rel.dep1, Rel.ons, Region.binds, Act.eval, KV] at hd; simp only [Act.eval, List.mem_cons, List.not_mem_nil, not_or, and_imp, or_false, Array.getD_eq_getD_getElem?] at hbase; go_simp; (try go_bits); (try rfl); done)); (try simp only [List.nil_append, List.cons_append]))
      (apply Rel.op3; (focus (first | exact Rel.gno rfl | exact Rel.gyes _ true _ rfl rfl rfl | exact Rel.gyes _ false _ rfl rfl rfl)); (focus (intro a W hb hd hbase; obtain ⟨hc, hf⟩ := bcell hb; clear hb hf; simp [Rel.deps, Rel.dep1, Rel.ons, Region.binds, Act.eval, KV] at hd; simp only [Act.eval, List.mem_cons, List.not_mem_nil, not_or, and_imp, or_false, Array.getD_eq_getD_getElem?] at hbase; go_simp; (try go_bits); (try rfl); done)); (try simp only [List.nil_append, List.cons_append]))
      (apply Rel.op3; (focus (first | exact Rel.gno rfl | exact Rel.gyes _ true _ rfl rfl rfl | exact Rel.gyes _ false _ rfl rfl rfl)); (focus (intro a W hb hd hbase; obtain ⟨hc, hf⟩ := bcell hb; clear hb hf; simp [Rel.deps, Rel.dep1, Rel.ons, Region.binds, Act.eval, KV] at hd; simp only [Act.eval, List.mem_cons, List.not_mem_nil, not_or, and_imp, or_false, Array.getD_eq_getD_getElem?] at hbase; go_simp; (try go_bits); (try rfl); done)); (try simp only [List.nil_append, List.cons_append]))
      (apply Rel.op3; (focus (first | exact Rel.gno rfl | exact Rel.gyes _ true _ rfl rfl rfl | exact Rel.gyes _ false _ rfl rfl rfl)); (focus (intro a W hb hd hbase; obtain ⟨hc, hf⟩ := bcell hb; clear hb hf; simp [Rel.deps, Rel.dep1, Rel.ons, Region.binds, Act.eval, KV] at hd; simp only [Act.eval, List.mem_cons, List.not_mem_nil, not_or, and_imp, or_false, Array.getD_eq_getD_getElem?] at hbase; go_simp; (try go_bits); (try rfl); done)); (try simp only [List.nil_append, List.cons_append]))
      (apply Rel.op3; (focus (first | exact Rel.gno rfl | exact Rel.gyes _ true _ rfl rfl rfl | exact Rel.gyes _ false _ rfl rfl rfl)); (focus (intro a W hb hd hbase; obtain ⟨hc, hf⟩ := bcell hb; clear hb hf; simp [Rel.deps, Rel.dep1, Rel.ons, Region.binds, Act.eval, KV] at hd; simp only [Act.eval, List.mem_cons, List.not_mem_nil, not_or, and_imp, or_false, Array.getD_eq_getD_getElem?] at hbase; go_simp; (try go_bits); (try rfl); done)); (try simp only [List.nil_append, List.cons_append]))
      (apply Rel.op3; (focus (first | exact Rel.gno rfl | exact Rel.gyes _ true _ rfl rfl rfl | exact Rel.gyes _ false _ rfl rfl rfl)); (focus (intro a W hb hd hbase; obtain ⟨hc, hf⟩ := bcell hb; clear hb hf; simp [Rel.deps, Rel.dep1, Rel.ons, Region.binds, Act.eval, KV] at hd; simp only [Act.eval, List.mem_cons, List.not_mem_nil, not_or, and_imp, or_false, Array.getD_eq_getD_getElem?] at hbase; go_simp; (try go_bits); (try rfl); done)); (try simp only [List.nil_append, List.cons_append]))
      (apply Rel.op3; (focus (first | exact Rel.gno rfl | exact Rel.gyes _ true _ rfl rfl rfl | exact Rel.gyes _ false _ rfl rfl rfl)); (focus (intro a W hb hd hbase; obtain ⟨hc, hf⟩ := bcell hb; clear hb hf; simp [Rel.deps, Rel.dep1, Rel.ons, Region.binds, Act.eval, KV] at hd; simp only [Act.eval, List.mem_cons, List.not_mem_nil, not_or, and_imp, or_false, Array.getD_eq_getD_getElem?] at hbase; go_simp; (try go_bits); (try rfl); done)); (try simp only [List.nil_append, List.cons_append]))
      (apply Rel.op3; (focus (first | exact Rel.gno rfl | exact Rel.gyes _ true _ rfl rfl rfl | exact Rel.gyes _ false _ rfl rfl rfl)); (focus (intro a W hb hd hbase; obtain ⟨hc, hf⟩ := bcell hb; clear hb hf; simp [Rel.deps, Rel.dep1, Rel.ons, Region.binds, Act.eval, KV] at hd; simp only [Act.eval, List.mem_cons, List.not_mem_nil, not_or, and_imp, or_false, Array.getD_eq_getD_getElem?] at hbase; go_simp; (try go_bits); (try rfl); done)); (try simp only [List.nil_append, List.cons_append]))
      (apply Rel.op3; (focus (first | exact Rel.gno rfl | exact Rel.gyes _ true _ rfl rfl rfl | exact Rel.gyes _ false _ rfl rfl rfl)); (focus (intro a W hb hd hbase; obtain ⟨hc, hf⟩ := bcell hb; clear hb hf; simp [Rel.deps, Rel.dep1, Rel.ons, Region.binds, Act.eval, KV] at hd; simp only [Act.eval, List.mem_cons, List.not_mem_nil, not_or, and_imp, or_false, Array.getD_eq_getD_getElem?] at hbase; go_simp; (try go_bits); (try rfl); done)); (try simp only [List.nil_append, List.cons_append]))
      refine Rel.done3 ?_
      intro x w21 h21 hx
      simp only [Rel.facts, Nat.zero_add, Nat.reduceAdd] at hx
      obtain ⟨e0, e1, e2, e3, e4, e5, e6, e7, e8, e9, e10, e11, _⟩ := hx
      simp only [Rel.fill, Nat.zero_add, Nat.reduceAdd, e0, e1, e2, e3, e4, e5, e6, e7, e8, e9, e10, e11]
      simp only [Act.put, List.setIfInBounds_toArray, List.set_cons_zero, List.set_cons_succ]
      clear e0 e1 e2 e3 e4 e5 e6 e7 e8 e9 e10 e11
      have HB21 := Lib.hid (HBr.out.trans (h21.mono HBr.out.size))
      go_wp2
      go_roundw
      case rel => exact ⟨k + 1, by omega, by go_num, by rw [HS2.out], HB21.out⟩
      case measure => simp [intOf]; omega
    · obtain rfl : k = M := by omega
      obtain ⟨B', d', hB', hKC, hKR⟩ := (KSI.ik _ _).st _ _ _ HK1.out HBr.out
      cases hB'
      have HKC := Lib.hid hKC
      obtain ⟨b2, o2, hA, hbl2, hcell2⟩ := hKC (by simp)
      subst hA
      have HCW := Lib.hid (show Cells wr (some ⟨b2, o2, none⟩) (pushL ps y) from Cells.takeN HKC.out _)
      have HIW := Lib.hid hKR
      have HFR := Lib.hid HFR0.out
      clear HFR0
      have HGW := Lib.hid ((HBr.out.block _ (by omega)).trans br.out)
      have HBW := Lib.hid (HB1.out.trans (HBr.out.mono (by omega)))
      have bsr := Lib.hid (bs.out.below HBr.out)
      obtain ⟨s0, s1, s2, sl, -⟩ := bsr.out.o3
      have hB2 : w.heap.size + 2 ≤ wr.heap.size := by have := HBr.out.size; omega
      obtain ⟨H0, hH0⟩ : ∃ H0, H0 = coolF lk h := ⟨_, rfl⟩
      obtain ⟨Y, hY⟩ : ∃ Y, Y = y * y := ⟨_, rfl⟩
      have hY' := hY.symm
      have hY2 : 0 ≤ Y ∧ Y ≤ 4194304 := by
        have h1 := mul_bd (a := y) (b := y) (A := 2048) (B := 2048) ⟨y1, y2⟩ ⟨y1, y2⟩
        have h2 : 0 ≤ y * y := by
          rcases Int.le_total 0 y with q | q
          · exact Int.mul_nonneg q q
          · exact Int.mul_nonneg_of_nonpos_of_nonpos q q
        rw [← hY] at h1 h2
        omega
      have hH2 : 0 ≤ H0 ∧ H0 ≤ h := by rw [hH0]; exact coolF_bd lk hh.1
      rw [← hH0] at HCO ⊢
      rw [← hY]
      rw [HSK.out, HEX.out] at *
      have HH0 := Lib.hid hH0
      have HYY := Lib.hid hY
      obtain ⟨z1, z2⟩ := hY2
      obtain ⟨z3, z4⟩ := hH2
      obtain ⟨z5, z6⟩ := hh
      have z7 : N ≤ d := by omega
      have z8 : (N : Int) ≤ (d : Int) := by omega
      clear hKC hKR hcell2 hH0 hY HS2
      go_wp2
      refine RelH.region3 (S := Sty 26 (KTN w.heap.size (H0 + Y) lv N (pushL ps y)) (w.heap.size + 2)) (Sty.trans (KTN.ik _ _ _ _ _)) (Sty.drawn (by decide)) 18 (by kernel_rfl) (by kernel_rfl) (by kernel_rfl) ?_
      simp only [List.take_succ_cons, List.take_zero, List.drop_succ_cons, List.drop_zero, List.filterMap_cons, List.filterMap_nil]
      (apply RelH.op3 (Sty.refl (by decide)); (focus (first | exact RelH.gno rfl | exact RelH.gyes _ true _ rfl rfl rfl | exact RelH.gyes _ false _ rfl rfl rfl)); (focus (intro a W x hS hd hbase; have hb := hS.below hB2; clear hS; obtain ⟨hc, hf⟩ := bcellB hb; clear hb hf; simp [RelH.deps, RelH.dep1, Rel.ons, Region.binds, Act.eval, KV] at hd; simp only [Act.eval, List.mem_cons, List.not_mem_nil, not_or, and_imp, or_false, Array.getD_eq_getD_getElem?] at hbase; go_simp; (try go_bits); (try rfl); done)); (try simp only [List.nil_append, List.cons_append]))
      (apply RelH.op3 (Sty.refl (by decide)); (focus (first | exact RelH.gno rfl | exact RelH.gyes _ true _ rfl rfl rfl | exact RelH.gyes _ false _ rfl rfl rfl)); (focus (intro a W x hS hd hbase; have hb := hS.below hB2; clear hS; obtain ⟨hc, hf⟩ := bcellB hb; clear hb hf; simp [RelH.deps, RelH.dep1, Rel.ons, Region.binds, Act.eval, KV] at hd; simp only [Act.eval, List.mem_cons, List.not_mem_nil, not_or, and_imp, or_false, Array.getD_eq_getD_getElem?] at hbase; go_simp; (try go_bits); (try rfl); done)); (try simp only [List.nil_append, List.cons_append]))
      (apply RelH.op3 (Sty.refl (by decide)); (focus (first | exact RelH.gno rfl | exact RelH.gyes _ true _ rfl rfl rfl | exact RelH.gyes _ false _ rfl rfl rfl)); (focus (intro a W x hS hd hbase; have hb := hS.below hB2; clear hS; obtain ⟨hc, hf⟩ := bcellB hb; clear hb hf; simp [RelH.deps, RelH.dep1, Rel.ons, Region.binds, Act.eval, KV] at hd; simp only [Act.eval, List.mem_cons, List.not_mem_nil, not_or, and_imp, or_false, Array.getD_eq_getD_getElem?] at hbase; go_simp; (try go_bits); (try rfl); done)); (try simp only [List.nil_append, List.cons_append]))
      refine RelH.callH (fun _ _ h => h.keep) (fun _ _ h => Sty.of (by decide) h) 83 (KV (.int .i64 (H0))) ((KV.ik _)) (RelH.gno rfl) ?_ ?_
      · intro a W x hS hd hbase
        have hb := hS.below hB2
        have q1 : a.eval (.tmp 35) = _ := (RelH.dep_k hd 0 rfl rfl)
        have q2 : a.eval (.tmp 37) = _ := (RelH.dep_k hd 2 rfl rfl)
        refine ⟨#[a.eval (.tmp 35), a.eval (.tmp 37)], ?_, by rw [q1, q2]; exact HCO.out _ (KG.st _ _ _ _ _ _ _ _ _ _ HU.out (HBW.out.trans (hb.mono (by omega))))⟩
        clear hd hbase hb hS
        go_simp
        (first | done | rfl | (refine ⟨?_, ?_⟩ <;> rfl))
      (try simp only [List.nil_append, List.cons_append])
      (apply RelH.op3 (Sty.refl (by decide)); (focus (first | exact RelH.gno rfl | exact RelH.gyes _ true _ rfl rfl rfl | exact RelH.gyes _ false _ rfl rfl rfl)); (focus (intro a W x hS hd hbase; have hb := hS.below hB2; clear hS; obtain ⟨hc, hf⟩ := bcellB hb; clear hb hf; simp [RelH.deps, RelH.dep1, Rel.ons, Region.binds, Act.eval, KV] at hd; simp only [Act.eval, List.mem_cons, List.not_mem_nil, not_or, and_imp, or_false, Array.getD_eq_getD_getElem?] at hbase; go_simp; (try go_bits); (try rfl); done)); (try simp only [List.nil_append, List.cons_append]))
      (apply RelH.op3 (Sty.refl (by decide)); (focus (first | exact RelH.gno rfl | exact RelH.gyes _ true _ rfl rfl rfl | exact RelH.gyes _ false _ rfl rfl rfl)); (focus (intro a W x hS hd hbase; have hb := hS.below hB2; clear hS; obtain ⟨hc, hf⟩ := bcellB hb; clear hb hf; simp [RelH.deps, RelH.dep1, Rel.ons, Region.binds, Act.eval, KV] at hd; simp only [Act.eval, List.mem_cons, List.not_mem_nil, not_or, and_imp, or_false, Array.getD_eq_getD_getElem?] at hbase; go_simp; (try go_bits); (try rfl); done)); (try simp only [List.nil_append, List.cons_append]))
      (apply RelH.op3 (Sty.refl (by decide)); (focus (first | exact RelH.gno rfl | exact RelH.gyes _ true _ rfl rfl rfl | exact RelH.gyes _ false _ rfl rfl rfl)); (focus (intro a W x hS hd hbase; have hb := hS.below hB2; clear hS; obtain ⟨hc, hf⟩ := bcellB hb; clear hb hf; simp [RelH.deps, RelH.dep1, Rel.ons, Region.binds, Act.eval, KV] at hd; simp only [Act.eval, List.mem_cons, List.not_mem_nil, not_or, and_imp, or_false, Array.getD_eq_getD_getElem?] at hbase; go_simp; (try go_bits); (try rfl); done)); (try simp only [List.nil_append, List.cons_append]))
      (apply RelH.op3 (Sty.refl (by decide)); (focus (first | exact RelH.gno rfl | exact RelH.gyes _ true _ rfl rfl rfl | exact RelH.gyes _ false _ rfl rfl rfl)); (focus (intro a W x hS hd hbase; have hb := hS.below hB2; clear hS; obtain ⟨hc, hf⟩ := bcellB hb; clear hb hf; simp [RelH.deps, RelH.dep1, Rel.ons, Region.binds, Act.eval, KV] at hd; simp only [Act.eval, List.mem_cons, List.not_mem_nil, not_or, and_imp, or_false, Array.getD_eq_getD_getElem?] at hbase; go_simp; (try go_bits); (try rfl); done)); (try simp only [List.nil_append, List.cons_append]))
      (apply RelH.op3 (Sty.refl (by decide)); (focus (first | exact RelH.gno rfl | exact RelH.gyes _ true _ rfl rfl rfl | exact RelH.gyes _ false _ rfl rfl rfl)); (focus (intro a W x hS hd hbase; have hb := hS.below hB2; clear hS; obtain ⟨hc, hf⟩ := bcellB hb; clear hb hf; simp [RelH.deps, RelH.dep1, Rel.ons, Region.binds, Act.eval, KV] at hd; simp only [Act.eval, List.mem_cons, List.not_mem_nil, not_or, and_imp, or_false, Array.getD_eq_getD_getElem?] at hbase; go_simp; (try go_bits); (try rfl); done)); (try simp only [List.nil_append, List.cons_append]))
      (apply RelH.op3 (Sty.refl (by decide)); (focus (first | exact RelH.gno rfl | exact RelH.gyes _ true _ rfl rfl rfl | exact RelH.gyes _ false _ rfl rfl rfl)); (focus (intro a W x hS hd hbase; have hb := hS.below hB2; clear hS; obtain ⟨hc, hf⟩ := bcellB hb; clear hb hf; simp [RelH.deps, RelH.dep1, Rel.ons, Region.binds, Act.eval, KV] at hd; simp only [Act.eval, List.mem_cons, List.not_mem_nil, not_or, and_imp, or_false, Array.getD_eq_getD_getElem?] at hbase; go_simp; (try go_bits); (try rfl); done)); (try simp only [List.nil_append, List.cons_append]))
      (apply RelH.op3 (Sty.refl (by decide)); (focus (first | exact RelH.gno rfl | exact RelH.gyes _ true _ rfl rfl rfl | exact RelH.gyes _ false _ rfl rfl rfl)); (focus (intro a W x hS hd hbase; have hb := hS.below hB2; clear hS; obtain ⟨hc, hf⟩ := bcellB hb; clear hb hf; simp [RelH.deps, RelH.dep1, Rel.ons, Region.binds, Act.eval, KV] at hd; simp only [Act.eval, List.mem_cons, List.not_mem_nil, not_or, and_imp, or_false, Array.getD_eq_getD_getElem?] at hbase; go_simp; (try go_bits); (try rfl); done)); (try simp only [List.nil_append, List.cons_append]))
      (apply RelH.op3 (Sty.refl (by decide)); (focus (first | exact RelH.gno rfl | exact RelH.gyes _ true _ rfl rfl rfl | exact RelH.gyes _ false _ rfl rfl rfl)); (focus (intro a W x hS hd hbase; have hb := hS.below hB2; clear hS; obtain ⟨hc, hf⟩ := bcellB hb; clear hb hf; simp [RelH.deps, RelH.dep1, Rel.ons, Region.binds, Act.eval, KV] at hd; simp only [Act.eval, List.mem_cons, List.not_mem_nil, not_or, and_imp, or_false, Array.getD_eq_getD_getElem?] at hbase; go_simp; (try go_bits); (try rfl); done)); (try simp only [List.nil_append, List.cons_append]))
      (apply RelH.op3 (Sty.refl (by decide)); (focus (first | exact RelH.gno rfl | exact RelH.gyes _ true _ rfl rfl rfl | exact RelH.gyes _ false _ rfl rfl rfl)); (focus (intro a W x hS hd hbase; have hb := hS.below hB2; clear hS; obtain ⟨hc, hf⟩ := bcellB hb; clear hb hf; simp [RelH.deps, RelH.dep1, Rel.ons, Region.binds, Act.eval, KV] at hd; simp only [Act.eval, List.mem_cons, List.not_mem_nil, not_or, and_imp, or_false, Array.getD_eq_getD_getElem?] at hbase; go_simp; (try go_bits); (try rfl); done)); (try simp only [List.nil_append, List.cons_append]))
      (apply RelH.op3 (Sty.refl (by decide)); (focus (first | exact RelH.gno rfl | exact RelH.gyes _ true _ rfl rfl rfl | exact RelH.gyes _ false _ rfl rfl rfl)); (focus (intro a W x hS hd hbase; have hb := hS.below hB2; clear hS; obtain ⟨hc, hf⟩ := bcellB hb; clear hb hf; simp [RelH.deps, RelH.dep1, Rel.ons, Region.binds, Act.eval, KV] at hd; simp only [Act.eval, List.mem_cons, List.not_mem_nil, not_or, and_imp, or_false, Array.getD_eq_getD_getElem?] at hbase; go_simp; (try go_bits); (try rfl); done)); (try simp only [List.nil_append, List.cons_append]))
      (apply RelH.op3 (Sty.refl (by decide)); (focus (first | exact RelH.gno rfl | exact RelH.gyes _ true _ rfl rfl rfl | exact RelH.gyes _ false _ rfl rfl rfl)); (focus (intro a W x hS hd hbase; have hb := hS.below hB2; clear hS; obtain ⟨hc, hf⟩ := bcellB hb; clear hb hf; simp [RelH.deps, RelH.dep1, Rel.ons, Region.binds, Act.eval, KV] at hd; simp only [Act.eval, List.mem_cons, List.not_mem_nil, not_or, and_imp, or_false, Array.getD_eq_getD_getElem?] at hbase; go_simp; (try go_bits); (try rfl); done)); (try simp only [List.nil_append, List.cons_append]))
      (apply RelH.op3 (Sty.refl (by decide)); (focus (first | exact RelH.gno rfl | exact RelH.gyes _ true _ rfl rfl rfl | exact RelH.gyes _ false _ rfl rfl rfl)); (focus (intro a W x hS hd hbase; have hb := hS.below hB2; clear hS; obtain ⟨hc, hf⟩ := bcellB hb; clear hb hf; simp [RelH.deps, RelH.dep1, Rel.ons, Region.binds, Act.eval, KV] at hd; simp only [Act.eval, List.mem_cons, List.not_mem_nil, not_or, and_imp, or_false, Array.getD_eq_getD_getElem?] at hbase; go_simp; (try go_bits); (try rfl); done)); (try simp only [List.nil_append, List.cons_append]))
      (apply RelH.op3 (Sty.refl (by decide)); (focus (first | exact RelH.gno rfl | exact RelH.gyes _ true _ rfl rfl rfl | exact RelH.gyes _ false _ rfl rfl rfl)); (focus (intro a W x hS hd hbase; have hb := hS.below hB2; clear hS; obtain ⟨hc, hf⟩ := bcellB hb; clear hb hf; simp [RelH.deps, RelH.dep1, Rel.ons, Region.binds, Act.eval, KV] at hd; simp only [Act.eval, List.mem_cons, List.not_mem_nil, not_or, and_imp, or_false, Array.getD_eq_getD_getElem?] at hbase; go_simp; (try go_bits); (try rfl); done)); (try simp only [List.nil_append, List.cons_append]))
      refine RelH.storeB 6 50 15 (hcell := HCW.out) (hrow := HIW.out) (hbb := HFR.out) (by simp) rfl (Nat.le_refl _) HGW.out rfl rfl rfl rfl (RelH.gno rfl) ?_
      (try simp only [List.nil_append, List.cons_append])
      refine RelH.done3 ?_
      intro x w41 hS41 hx
      have h41 := hS41.below hB2
      clear hS41
      simp only [RelH.facts, Nat.zero_add, Nat.reduceAdd] at hx
      obtain ⟨e0, e1, e2, e3, e4, e5, e6, e7, e8, e9, e10, e11, e12, e13, e14, e15, e16, ⟨cs41, hG41, B41, c41, ec41, hc41, hi41⟩, _⟩ := hx
      have e3 : x 3 = _ := e3
      cases ec41
      simp only [RelH.fill, Nat.zero_add, Nat.reduceAdd, e0, e1, e2, e3, e4, e5, e6, e7, e8, e9, e10, e11, e12, e13, e14, e15, e16]
      simp only [Act.put, List.setIfInBounds_toArray, List.set_cons_zero, List.set_cons_succ]
      clear e0 e1 e2 e3 e4 e5 e6 e7 e8 e9 e10 e11 e12 e13 e14 e15 e16
      have K3 := Calm.Blk.row hG41
      obtain ⟨r0, r1, r2, rl, -⟩ := K3.o3
      have HBZ := Lib.hid (HBW.out.trans (h41.mono (by omega)))
      go_wp2
      exact bodyPost_ret (v := .tuple #[.agg #[(.int .i64 (H0 + Y)), (.int .i64 (lv)), .slice B41 N c41], (.int .i64 (exF ts ps y))]) (by simp [results, Tryd.results36, go_sem, r0, r1, r2]) rfl ⟨_, rfl, ⟨_, _, rfl, ⟨_, _, by rw [HH0.out, HYY.out], hc41, hi41⟩, rfl⟩, HBZ.out⟩
theorem rBehind_N {lk ht rc h lv y : Int} {ts gs ps : List Int} {M L N : Nat} {u v : Value} {W : World} (hlk : 1 ≤ lk ∧ lk ≤ 8) (hh : 0 ≤ h ∧ h ≤ 1099511627776) (hM : M = ts.length) (hN : N = ps.length) (hMN : M = N + 1) (hM8 : M ≤ 1000) (htb : inB 64 ts) (hpb : inB 2048 ps) (hy : -2048 ≤ y ∧ y ≤ 2048) (hu : KG lk ht rc M ts L gs u W) (hv : KT h lv N ps v W) :
    Calls Tryd.prog 36 #[u, v, (.int .i64 (y))] W (KP (K2 (KTN W.heap.size (coolF lk h + y * y) lv N (pushL ps y)) (KV (.int .i64 (exF ts ps y)))) W) := by
  obtain ⟨A1, c1, A2, c2, rfl, hT, hG⟩ := hu
  obtain ⟨A3, c3, rfl, hP⟩ := hv
  exact rBehind_walk hlk hh hM hN hMN hM8 htb hpb hy hT hG hP
theorem rBehind_K {lk ht rc h lv y : Int} {ts gs ps : List Int} {M L N : Nat} {u v : Value} {W : World} (hlk : 1 ≤ lk ∧ lk ≤ 8) (hh : 0 ≤ h ∧ h ≤ 1099511627776) (hM : M = ts.length) (hN : N = ps.length) (hMN : M = N + 1) (hM8 : M ≤ 1000) (htb : inB 64 ts) (hpb : inB 2048 ps) (hy : -2048 ≤ y ∧ y ≤ 2048) (hu : KG lk ht rc M ts L gs u W) (hv : KT h lv N ps v W) :
    Calls Tryd.prog 36 #[u, v, (.int .i64 (y))] W (KP (K2 (KTI (coolF lk h + y * y) lv N (pushL ps y)) (KV (.int .i64 (exF ts ps y)))) W) :=
  (rBehind_N hlk hh hM hN hMN hM8 htb hpb hy hu hv).mono fun e W' ⟨v, h1, ⟨u1, u2, h2, h3, h4⟩, hb⟩ => ⟨v, h1, ⟨u1, u2, h2, h3.kti, h4⟩, hb⟩
end Go.Proofs.YtdeapbihbhoefaaDoor

/- Contracts of the program as ProtectOpposite wants them. -/
namespace Go.Proofs.YtdeapbihbhoefaaDoor
open Go.RowKit
open Calm (bcell Blk)
theorem Cells.setAt {w : World} {b o : Nat} {zs : List Int} (h : Cells w (some ⟨b, o, none⟩) zs) {k : Nat} (hk : k < zs.length) (v : Int) : Cells (w.setCell ⟨b, o + k, none⟩ (.int .i64 (v))) (some ⟨b, o, none⟩) (zs.set k v) := by
  intro h0
  obtain ⟨b', o', hA, hl, hc⟩ := h (by omega)
  cases hA
  refine ⟨b, o, rfl, by simpa using hl, fun j hj => ?_⟩
  have hj' : j < zs.length := by simpa using hj
  by_cases hjk : j = k
  · subst hjk
    rw [World.cell?_setCell_same' _ _ _ (by rw [hc j hj']; rfl)]
    simp [List.getD_eq_getElem?_getD, hk]
  · rw [World.cell?_setCell_other _ _ _ _ (by intro e; have e2 := congrArg Addr.off e; simp at e2; omega), hc j hj']
    simp [List.getD_eq_getElem?_getD, List.getElem?_set, hj', show ¬ k = j by omega]
theorem xSignal_K {n : Nat} {l : List Int} {u : Value} {W : World} (hn : n = l.length) (h5 : n ≤ 5000) (hu : KS n l u W) : Calls Tryd.prog 44 #[u] W (KP (KV (.int .i64 (sigErr l))) W) := by
  obtain ⟨A, c, rfl, hC⟩ := hu
  subst hn
  exact (pSignal_any l A c W hC h5).mono fun e W' ⟨k1, k2⟩ => ⟨_, k1, rfl, k2 ▸ Below.refl _ _⟩
theorem runErr_ok {lk ht rc : Int} {ts gs xs : List Int} (h1 : guardErr lk ht rc ts gs = 0) (h2 : sigErr xs = 0) : runErr lk ht rc ts gs xs = 0 := by
  unfold runErr
  exact firstOf_eq_zero.2 (by simp [h1, h2])
section
variable {lk ht rc : Int} {ts gs xs : List Int} {M L N : Nat} {a y : Value} {W : World} (hM : M = ts.length) (hL : L = gs.length) (hN : N = xs.length) (h1 : M ≤ 1000) (h2 : L ≤ 1000) (h3 : N ≤ 5000) (hLim : Lim W) (hu : KG lk ht rc M ts L gs a W) (hv : KS N xs y W) (g1 : guardErr lk ht rc ts gs = 0) (g2 : sigErr xs = 0)
include hM hL hN h1 h2 h3 hLim hu hv g1 g2
theorem xRun_ok : Calls Tryd.prog 40 #[a, y] W (KP (K2 (KS N (outsK lk ht rc ts gs xs N)) (KV (.int .i64 (0)))) W) := by
  have e0 := runErr_ok (lk := lk) (ht := ht) (rc := rc) (ts := ts) (gs := gs) g1 g2
  have e : runR lk ht rc ts gs xs = outsK lk ht rc ts gs xs N := by rw [hN]; exact if_pos e0
  have := cRun (N2 := N) hM hL hN h1 h2 h3 hLim hu hv (by rw [e]; exact (outsK_len _ _ _ _ _ _ _).symm)
  rwa [e, e0] at this
theorem xLevels_ok : Calls Tryd.prog 42 #[a, y] W (KP (K2 (KS N (lvsK lk ht rc ts gs xs N)) (KV (.int .i64 (0)))) W) := by
  have e0 := runErr_ok (lk := lk) (ht := ht) (rc := rc) (ts := ts) (gs := gs) g1 g2
  have e : lvsR lk ht rc ts gs xs = lvsK lk ht rc ts gs xs N := by rw [hN]; exact if_pos e0
  have := cLevels (N2 := N) hM hL hN h1 h2 h3 hLim hu hv (by rw [e]; exact (lvsK_len _ _ _ _ _ _ _).symm)
  rwa [e, e0] at this
end
theorem xPeaks_ok {lk ht rc : Int} {ts gs xs : List Int} {M L N : Nat} {a y : Value} {W : World} (hM : M = ts.length) (hL : L = gs.length) (hN : N = xs.length) (h1 : M ≤ 1000) (h2 : L ≤ 1000) (h3 : N ≤ 5000) (hu : KG lk ht rc M ts L gs a W) (hv : KS N xs y W) (g1 : guardErr lk ht rc ts gs = 0) (g2 : sigErr xs = 0) :
    Calls Tryd.prog 43 #[a, y] W (KP (K2 (KV (.agg #[(.int .i64 (pkH lk xs N)), (.int .i64 (pkX ts xs N))])) (KV (.int .i64 (0)))) W) := by
  have e0 := runErr_ok (lk := lk) (ht := ht) (rc := rc) (ts := ts) (gs := gs) g1 g2
  have := cPeaks hM hL hN h1 h2 h3 hu hv
  rwa [show pkHR lk ht rc ts gs xs = pkH lk xs N by rw [hN]; exact if_pos e0, show pkXR lk ht rc ts gs xs = pkX ts xs N by rw [hN]; exact if_pos e0, e0] at this
/-- a slice with room for what it holds. -/
def KSC (n : Nat) (l : List Int) : Rel.Know := fun u W => ∃ B c, u = .slice B n c ∧ Cells W B l ∧ n ≤ c ∧ c ≤ maxLen
theorem xRun_cap {lk ht rc : Int} {ts gs xs : List Int} {M L N : Nat} {a y : Value} {W : World} (hM : M = ts.length) (hL : L = gs.length) (hN : N = xs.length) (h1 : M ≤ 1000) (h2 : L ≤ 1000) (h3 : N ≤ 5000) (hLim : Lim W) (hu : KG lk ht rc M ts L gs a W) (hv : KS N xs y W) (g1 : guardErr lk ht rc ts gs = 0) (g2 : sigErr xs = 0) :
    Calls Tryd.prog 40 #[a, y] W (KP (K2 (KSC N (outsK lk ht rc ts gs xs N)) (KV (.int .i64 (0)))) W) := by
  obtain ⟨A1, c1, A2, c2, rfl, hT, hG⟩ := hu
  obtain ⟨A3, c3, rfl, hX⟩ := hv
  subst hM hL hN
  exact (run_okc lk ht rc ts gs xs A1 A2 A3 c1 c2 c3 W hLim (guard_valid g1) hT hG hX (sigErr_in g2) (by omega) (by omega) h3 (runErr_ok g1 g2)).mono fun e W' ⟨⟨B, d, h, hc, hd1, hd2⟩, hb⟩ => ⟨_, h, ⟨_, _, rfl, ⟨_, _, rfl, hc, hd1, hd2⟩, rfl⟩, hb⟩
theorem crErr_ok {lk ht rc : Int} {ts gs xs os : List Int} (h1 : guardErr lk ht rc ts gs = 0) (h2 : sigErr xs = 0) (h3 : sigErr os = 0) (h4 : xs.length = os.length) : crErr lk ht rc ts gs xs os = 0 := by
  unfold crErr
  refine firstOf_eq_zero.2 (fun e he => ?_)
  simp only [List.mem_cons, List.not_mem_nil, or_false] at he
  rcases he with rfl | rfl | rfl | rfl <;> first | assumption | exact runErr_ok h1 h2 | (simp [h4])
section
variable {lk ht rc : Int} {ts gs xs os : List Int} {M L N : Nat} {a y z : Value} {W : World} (hM : M = ts.length) (hL : L = gs.length) (hN : N = xs.length) (hN2 : N = os.length) (h1 : M ≤ 1000) (h2 : L ≤ 1000) (h3 : N ≤ 5000) (hLim : Lim W) (hu : KG lk ht rc M ts L gs a W) (hv : KS N xs y W) (hz : KS N os z W) (g1 : guardErr lk ht rc ts gs = 0) (g2 : sigErr xs = 0) (g3 : sigErr os = 0)
include hM hL hN hN2 h1 h2 h3 hLim hu hv hz g1 g2 g3
theorem xCheckRun_ok (e : outsK lk ht rc ts gs xs N = os) : Calls Tryd.prog 65 #[a, y, z] W (KP (KV (.int .i64 (0))) W) := by
  have e0 := crErr_ok (lk := lk) (ht := ht) (rc := rc) g1 g2 g3 (by omega)
  have := cCheckRun hM hL hN hN2 h1 h2 h3 h3 hLim hu hv hz
  rwa [show crR lk ht rc ts gs xs os = 0 by unfold crR; rw [if_pos e0, if_pos (by rw [← hN]; exact e)]] at this
theorem xCheckRun_no (e : outsK lk ht rc ts gs xs N ≠ os) : Calls Tryd.prog 65 #[a, y, z] W (KP (KV (.int .i64 (22))) W) := by
  have e0 := crErr_ok (lk := lk) (ht := ht) (rc := rc) g1 g2 g3 (by omega)
  have := cCheckRun hM hL hN hN2 h1 h2 h3 h3 hLim hu hv hz
  rwa [show crR lk ht rc ts gs xs os = 22 by unfold crR; rw [if_pos e0, if_neg (by rw [← hN]; exact e)]] at this
end
theorem own_one {W W' : World} {n : Nat} {v : Value} {xs : List Int} (h : W'.ownsRow W.heap.size 3 1 v n (xs.map (Value.int .i64))) (hn : n = xs.length) (h0 : 0 < n) (hb : Below W.heap.size W W') :
    ∃ g c, Ending.returned v = .returned (.slice (some ⟨g, 0, none⟩) n c) ∧ W.heap.size ≤ g ∧ g < W'.heap.size ∧ (∀ i, W'.frozen? ⟨g, i, none⟩ = false) ∧ Cells W' (some ⟨g, 0, none⟩) xs ∧ Below W.heap.size W W' := by
  obtain ⟨A', c', e, _, hC'⟩ := own_ints h hn
  rcases h.2 with ⟨e1, e2⟩ | ⟨g, cap, cur, e1, e2, e3, _⟩
  · omega
  · rw [e1] at e
    cases e
    have hq := Calm.Blk.row e3
    exact ⟨g, c', by rw [e1], e2, hq.lt, hq.f, hC', hb⟩
set_option maxHeartbeats 1000000 in
theorem ints_O {n : Nat} {xs : List Int} {u : Value} {W : World} (hn : n = xs.length) (h5 : n ≤ 100000) (h0 : 0 < n) (hu : KS n xs u W) :
    Calls Tryd.prog 41 #[u] W fun e W' => ∃ g c, e = .returned (.slice (some ⟨g, 0, none⟩) n c) ∧ W.heap.size ≤ g ∧ g < W'.heap.size ∧ (∀ i, W'.frozen? ⟨g, i, none⟩ = false) ∧ Cells W' (some ⟨g, 0, none⟩) xs ∧ Below W.heap.size W W' := by
  obtain ⟨A, c, rfl, hC⟩ := hu
  have HC := Lib.hid hC
  have HN := Lib.hid hn
  clear hC hn
  go_enter Tryd.func41, Tryd.ntmps41
  go_wp2_with (at_builtin; refine wpList_appC rfl _ _ rfl W.heap.size n c A xs HN.out rfl rfl ⟨by simp, .inr ⟨_, 0, #[], rfl, Nat.le_refl _, by show (W.heap.push _)[W.heap.size]? = _; simp, Nat.le_refl _, Nat.zero_le _, by simp, by simp⟩⟩ h5 (HC.out.below ((Below.refl _ _).alloc (Nat.le_refl _) _)) ?_; intro B d w1 hb1 hown; have HB1 := Lib.hid (((Below.refl W.heap.size W).alloc (Nat.le_refl _) (.cells #[] 3)).trans (hb1.mono (by simp))); have HK := Lib.hid hown; clear hb1 hown)
  go_ret
  exact own_one HK.out HN.out h0 HB1.out
end Go.Proofs.YtdeapbihbhoefaaDoor

/- Contracts of the program as ProtectQuiet wants them. -/
namespace Go.Proofs.YtdeapbihbhoefaaDoor
open Go.RowKit
open Calm (bcell Blk)
def qL (X : Int) (l : List Int) : List Int := l.map fun x => x.tmod (X + 1)
theorem qL_len (X : Int) (l : List Int) : (qL X l).length = l.length := by simp [qL]
theorem qL_succ {X : Int} {l : List Int} {k : Nat} (h : k < l.length) : qL X (l.take (k + 1)) = qL X (l.take k) ++ [(l.getD k 0).tmod (X + 1)] := by
  unfold qL
  rw [List.take_add_one, List.getElem?_eq_getElem h, List.map_append, List.getD_eq_getElem?_getD, List.getElem?_eq_getElem h]
  rfl
theorem qL_in {X : Int} {xs : List Int} (h : 0 ≤ X) : inB X (qL X xs) := by
  intro z hz
  obtain ⟨v, _, rfl⟩ := List.mem_map.1 hz
  exact tmod_in h
theorem sq_nonneg' {a : Int} (h : 0 ≤ a) : 0 ≤ a * a := Int.mul_nonneg h h
section
variable {lk ht rc : Int} {ts gs : List Int} {M L : Nat} {u : Value} {W : World} (hM : M = ts.length) (hL : L = gs.length) (h1 : M ≤ 1000) (h2 : L ≤ 1000) (hu : KG lk ht rc M ts L gs u W) (g1 : guardErr lk ht rc ts gs = 0)
include hM hL h1 h2 hu g1
theorem xQuiet_ok : Calls Tryd.prog 49 #[u] W (KP (K2 (KV (.int .i64 (quietF lk ht rc ts))) (KV (.int .i64 (0)))) W) := by
  have := cQuiet hM hL h1 h2 hu
  rwa [show quiR lk ht rc ts gs = quietF lk ht rc ts from if_pos g1, g1] at this
theorem xSteady_ok : Calls Tryd.prog 48 #[u] W (KP (K2 (KV (.int .i64 ((stdF lk ht : Int)))) (KV (.int .i64 (0)))) W) := by
  have := cSteady hM hL h1 h2 hu
  rwa [show stdR lk ht rc ts gs = (stdF lk ht : Int) from if_pos g1, g1] at this
theorem xCool_ok {a b : Int} (ha : 0 ≤ a ∧ a ≤ 536870912) (hb : 0 ≤ b ∧ b ≤ 536870912) : Calls Tryd.prog 50 #[u, (.int .i64 (a)), (.int .i64 (b))] W (KP (K2 (KV (.int .i64 ((coolR lk a b).1))) (KV (.int .i64 ((coolR lk a b).2)))) W) := by
  have e0 : coolErr lk ht rc ts gs a b = 0 := by
    unfold coolErr
    refine firstOf_eq_zero.2 (fun e he => ?_)
    simp only [List.mem_cons, List.not_mem_nil, or_false] at he
    rcases he with rfl | rfl | rfl
    · exact g1
    · exact rangeErr_in ha.1 ha.2
    · exact rangeErr_in hb.1 hb.2
  have := cCool (a := a) (b := b) hM hL h1 h2 hu
  rwa [show coolE lk ht rc ts gs a b = coolR lk a b from if_pos e0] at this
end
end Go.Proofs.YtdeapbihbhoefaaDoor

/- ProtectQuiet, case 0. -/
namespace Go.Proofs.YtdeapbihbhoefaaDoor
open Go.RowKit
open Calm (bcell Blk)
set_option maxRecDepth 100000 in
set_option maxHeartbeats 8000000 in
theorem quiet_0 (lk ht rc he : Int) (M L N : Nat) (ts gs xs : List Int) (u v : Value) (w : World) (hTab : PTab w) (hM : M = ts.length) (hL : L = gs.length) (hN : N = xs.length) (b0 : ¬ (M ≤ 9 ∧ L ≤ 9)) (hu : KG lk ht rc M ts L gs u w) (hv : KS N xs v w) :
    Calls Tryd.prog 9 #[u, v, (.int .i64 (he))] w fun r w' => r = .returned (.bool true) ∧ Below w.heap.size w w' := by
  obtain ⟨A1, c1, A2, c2, rfl, hT, hG⟩ := hu
  obtain ⟨A3, c3, rfl, hP⟩ := hv
  have HU := Lib.hid (show KG lk ht rc M ts L gs (.agg #[(.int .i64 (lk)), (.int .i64 (ht)), .slice A1 M c1, (.int .i64 (rc)), .slice A2 L c2]) w from ⟨_, _, _, _, rfl, hT, hG⟩)
  have HX := Lib.hid (show KS N xs (.slice A3 N c3) w from ⟨_, _, rfl, hP⟩)
  have HSH : Hid (∀ W, KG lk ht rc M ts L gs (.agg #[(.int .i64 (lk)), (.int .i64 (ht)), .slice A1 M c1, (.int .i64 (rc)), .slice A2 L c2]) W → Calls Tryd.prog 13 #[.agg #[(.int .i64 (lk)), (.int .i64 (ht)), .slice A1 M c1, (.int .i64 (rc)), .slice A2 L c2]] W (KP (KV (.bool false)) W)) := Lib.hid (fun W q => by have := Short_K q; rwa [decide_eq_false b0] at this)
  have HTab := Lib.hid hTab
  clear hTab hM hL hN hT hG hP b0
  go_enter Tryd.func9, Tryd.ntmps9
  have HB0 := Lib.hid (Below.refl w.heap.size w)
  go_wp2_with (go_at_call 13; refine name_calls ?_; intro w1 e1; refine Hid.out ?_)
  unfold Hid
  have h1 : Below w.heap.size w w1 := by rw [e1]; exact bel
  have HB1 := Lib.hid (HB0.out.trans (h1.mono HB0.out.size))
  have bg_1 := Lib.hid (show Blk w1 w.heap.size #[(.int .i64 (lk)), (.int .i64 (ht)), .slice A1 M c1, (.int .i64 (rc)), .slice A2 L c2] from by rw [e1]; (repeat (first | ((with_reducible refine Blk.at_ ?_); focus (first | rfl | (simp; done) | (simp; omega))) | (with_reducible refine Blk.alloc ?_ _) | (with_reducible refine Blk.below ?_ (by with_reducible assumption)) | (with_reducible refine Blk.drew ?_))))
  clear e1 h1
  refine (HSH.out _ (KG.st _ _ _ _ _ _ _ _ _ _ HU.out HB1.out)).mono ?_
  rintro r w2 ⟨v2, rfl, k2, h2⟩
  have bg_2 := Lib.hid (bg_1.out.below h2)
  have HB2 := Lib.hid (HB1.out.trans (h2.mono HB1.out.size))
  obtain rfl := k2
  clear h2
  have ug_rw2 := Lib.hid (KG.st _ _ _ _ _ _ _ _ _ _ HU.out HB2.out)
  have ux_rw2 := Lib.hid (KS.st _ _ _ _ _ HX.out HB2.out)
  have HTabw2 := Lib.hid (HTab.out.below HB2.out)
  have HZw2 := Lib.hid (Below.refl w2.heap.size w2)
  clear HU HX HTab
  go_wp2_with (go_at_call 15; refine name_calls ?_; intro w3 e3; refine Hid.out ?_)
  unfold Hid
  have h3 : Below w2.heap.size w2 w3 := by rw [e3]; exact bel
  have HB3 := Lib.hid (HZw2.out.trans (h3.mono HZw2.out.size))
  clear e3 h3
  refine (awake_any _ (HTabw2.out.below HB3.out)).mono ?_
  rintro r w4 ⟨rfl, h4⟩
  have HB4 := Lib.hid (HB3.out.trans (h4.mono HB3.out.size))
  clear h4
  go_wp2
  go_ret
  exact ⟨by first | rfl | (simp; done), HB2.out.trans (HB4.out.mono HB2.out.size)⟩
end Go.Proofs.YtdeapbihbhoefaaDoor

/- ProtectQuiet, case 1. -/
namespace Go.Proofs.YtdeapbihbhoefaaDoor
open Go.RowKit
open Calm (bcell Blk)
set_option maxRecDepth 100000 in
set_option maxHeartbeats 8000000 in
theorem quiet_1 (lk ht rc he : Int) (M L N : Nat) (ts gs xs : List Int) (u v : Value) (w : World) (hTab : PTab w) (hM : M = ts.length) (hL : L = gs.length) (hN : N = xs.length) (b0 : M ≤ 9 ∧ L ≤ 9) (b1 : ¬ N ≤ 40) (hu : KG lk ht rc M ts L gs u w) (hv : KS N xs v w) :
    Calls Tryd.prog 9 #[u, v, (.int .i64 (he))] w fun r w' => r = .returned (.bool true) ∧ Below w.heap.size w w' := by
  obtain ⟨A1, c1, A2, c2, rfl, hT, hG⟩ := hu
  obtain ⟨A3, c3, rfl, hP⟩ := hv
  have HU := Lib.hid (show KG lk ht rc M ts L gs (.agg #[(.int .i64 (lk)), (.int .i64 (ht)), .slice A1 M c1, (.int .i64 (rc)), .slice A2 L c2]) w from ⟨_, _, _, _, rfl, hT, hG⟩)
  have HX := Lib.hid (show KS N xs (.slice A3 N c3) w from ⟨_, _, rfl, hP⟩)
  have HSH : Hid (∀ W, KG lk ht rc M ts L gs (.agg #[(.int .i64 (lk)), (.int .i64 (ht)), .slice A1 M c1, (.int .i64 (rc)), .slice A2 L c2]) W → Calls Tryd.prog 13 #[.agg #[(.int .i64 (lk)), (.int .i64 (ht)), .slice A1 M c1, (.int .i64 (rc)), .slice A2 L c2]] W (KP (KV (.bool true)) W)) := Lib.hid (fun W q => by have := Short_K q; rwa [decide_eq_true b0] at this)
  have hlen : (40 : Int) < (N : Int) := by omega
  have HTab := Lib.hid hTab
  clear hTab hM hL hN hT hG hP b1
  go_enter Tryd.func9, Tryd.ntmps9
  have HB0 := Lib.hid (Below.refl w.heap.size w)
  go_wp2_with (go_at_call 13; refine name_calls ?_; intro w1 e1; refine Hid.out ?_)
  unfold Hid
  have h1 : Below w.heap.size w w1 := by rw [e1]; exact bel
  have HB1 := Lib.hid (HB0.out.trans (h1.mono HB0.out.size))
  have bg_1 := Lib.hid (show Blk w1 w.heap.size #[(.int .i64 (lk)), (.int .i64 (ht)), .slice A1 M c1, (.int .i64 (rc)), .slice A2 L c2] from by rw [e1]; (repeat (first | ((with_reducible refine Blk.at_ ?_); focus (first | rfl | (simp; done) | (simp; omega))) | (with_reducible refine Blk.alloc ?_ _) | (with_reducible refine Blk.below ?_ (by with_reducible assumption)) | (with_reducible refine Blk.drew ?_))))
  clear e1 h1
  refine (HSH.out _ (KG.st _ _ _ _ _ _ _ _ _ _ HU.out HB1.out)).mono ?_
  rintro r w2 ⟨v2, rfl, k2, h2⟩
  have bg_2 := Lib.hid (bg_1.out.below h2)
  have HB2 := Lib.hid (HB1.out.trans (h2.mono HB1.out.size))
  obtain rfl := k2
  clear h2
  have ug_rw2 := Lib.hid (KG.st _ _ _ _ _ _ _ _ _ _ HU.out HB2.out)
  have ux_rw2 := Lib.hid (KS.st _ _ _ _ _ HX.out HB2.out)
  have HTabw2 := Lib.hid (HTab.out.below HB2.out)
  have HZw2 := Lib.hid (Below.refl w2.heap.size w2)
  clear HU HX HTab
  go_wp2_with (go_at_call 15; refine name_calls ?_; intro w3 e3; refine Hid.out ?_)
  unfold Hid
  have h3 : Below w2.heap.size w2 w3 := by rw [e3]; exact bel
  have HB3 := Lib.hid (HZw2.out.trans (h3.mono HZw2.out.size))
  clear e3 h3
  refine (awake_any _ (HTabw2.out.below HB3.out)).mono ?_
  rintro r w4 ⟨rfl, h4⟩
  have HB4 := Lib.hid (HB3.out.trans (h4.mono HB3.out.size))
  clear h4
  go_wp2
  go_ret
  exact ⟨by first | rfl | (simp; done), HB2.out.trans (HB4.out.mono HB2.out.size)⟩
end Go.Proofs.YtdeapbihbhoefaaDoor

/- ProtectQuiet, case 2. -/
namespace Go.Proofs.YtdeapbihbhoefaaDoor
open Go.RowKit
open Calm (bcell Blk)
set_option maxRecDepth 100000 in
set_option maxHeartbeats 8000000 in
theorem quiet_2 (lk ht rc he : Int) (M L N : Nat) (ts gs xs : List Int) (u v : Value) (w : World) (hTab : PTab w) (hM : M = ts.length) (hL : L = gs.length) (hN : N = xs.length) (b0 : M ≤ 9 ∧ L ≤ 9) (b1 : N ≤ 40) (b2 : ¬ guardErr lk ht rc ts gs = 0) (hu : KG lk ht rc M ts L gs u w) (hv : KS N xs v w) :
    Calls Tryd.prog 9 #[u, v, (.int .i64 (he))] w fun r w' => r = .returned (.bool true) ∧ Below w.heap.size w w' := by
  obtain ⟨A1, c1, A2, c2, rfl, hT, hG⟩ := hu
  obtain ⟨A3, c3, rfl, hP⟩ := hv
  have HU := Lib.hid (show KG lk ht rc M ts L gs (.agg #[(.int .i64 (lk)), (.int .i64 (ht)), .slice A1 M c1, (.int .i64 (rc)), .slice A2 L c2]) w from ⟨_, _, _, _, rfl, hT, hG⟩)
  have HX := Lib.hid (show KS N xs (.slice A3 N c3) w from ⟨_, _, rfl, hP⟩)
  have HSH : Hid (∀ W, KG lk ht rc M ts L gs (.agg #[(.int .i64 (lk)), (.int .i64 (ht)), .slice A1 M c1, (.int .i64 (rc)), .slice A2 L c2]) W → Calls Tryd.prog 13 #[.agg #[(.int .i64 (lk)), (.int .i64 (ht)), .slice A1 M c1, (.int .i64 (rc)), .slice A2 L c2]] W (KP (KV (.bool true)) W)) := Lib.hid (fun W q => by have := Short_K q; rwa [decide_eq_true b0] at this)
  obtain ⟨b01, b02⟩ := b0
  have hlen : (N : Int) ≤ 40 := by omega
  obtain ⟨GE, hGE⟩ : ∃ GE, GE = guardErr lk ht rc ts gs := ⟨_, rfl⟩
  have HCG : Hid (∀ {x : Value} (W : World), KG lk ht rc M ts L gs x W → Calls Tryd.prog 18 #[x] W (KP (KV (.int .i64 (GE))) W)) := Lib.hid (fun W q => by rw [hGE]; exact rGuard_K hM hL (by omega) (by omega) q)
  rw [← hGE] at b2
  have HTab := Lib.hid hTab
  clear hTab hM hL hN hT hG hP hGE
  go_enter Tryd.func9, Tryd.ntmps9
  have HB0 := Lib.hid (Below.refl w.heap.size w)
  go_wp2_with (go_at_call 13; refine name_calls ?_; intro w1 e1; refine Hid.out ?_)
  unfold Hid
  have h1 : Below w.heap.size w w1 := by rw [e1]; exact bel
  have HB1 := Lib.hid (HB0.out.trans (h1.mono HB0.out.size))
  have bg_1 := Lib.hid (show Blk w1 w.heap.size #[(.int .i64 (lk)), (.int .i64 (ht)), .slice A1 M c1, (.int .i64 (rc)), .slice A2 L c2] from by rw [e1]; (repeat (first | ((with_reducible refine Blk.at_ ?_); focus (first | rfl | (simp; done) | (simp; omega))) | (with_reducible refine Blk.alloc ?_ _) | (with_reducible refine Blk.below ?_ (by with_reducible assumption)) | (with_reducible refine Blk.drew ?_))))
  clear e1 h1
  refine (HSH.out _ (KG.st _ _ _ _ _ _ _ _ _ _ HU.out HB1.out)).mono ?_
  rintro r w2 ⟨v2, rfl, k2, h2⟩
  have bg_2 := Lib.hid (bg_1.out.below h2)
  have HB2 := Lib.hid (HB1.out.trans (h2.mono HB1.out.size))
  obtain rfl := k2
  clear h2
  have ug_rw2 := Lib.hid (KG.st _ _ _ _ _ _ _ _ _ _ HU.out HB2.out)
  have ux_rw2 := Lib.hid (KS.st _ _ _ _ _ HX.out HB2.out)
  have HTabw2 := Lib.hid (HTab.out.below HB2.out)
  have HZw2 := Lib.hid (Below.refl w2.heap.size w2)
  clear HU HX HTab
  obtain ⟨fbg_0, fbg_1, fbg_2, fbg_3, fbg_4, fbg_l, -⟩ := (bg_2.out.below HZw2.out).o5
  go_wp2_with (go_at_call 18; refine name_calls ?_; intro w3 e3; refine Hid.out ?_)
  unfold Hid
  have h3 : Below w2.heap.size w2 w3 := by rw [e3]; exact bel
  have HB3 := Lib.hid (HZw2.out.trans (h3.mono HZw2.out.size))
  clear e3 h3
  refine (HCG.out _ (KG.st _ _ _ _ _ _ _ _ _ _ ug_rw2.out HB3.out)).mono ?_
  rintro r w4 ⟨v4, rfl, k4, h4⟩
  have HB4 := Lib.hid (HB3.out.trans (h4.mono HB3.out.size))
  obtain rfl := k4
  clear h4
  clear fbg_0 fbg_1 fbg_2 fbg_3 fbg_4 fbg_l
  go_wp2_with (go_at_call 15; refine name_calls ?_; intro w5 e5; refine Hid.out ?_)
  unfold Hid
  have h5 : Below w4.heap.size w4 w5 := by rw [e5]; exact bel
  have HB5 := Lib.hid (HB4.out.trans (h5.mono HB4.out.size))
  clear e5 h5
  refine (awake_any _ (HTabw2.out.below HB5.out)).mono ?_
  rintro r w6 ⟨rfl, h6⟩
  have HB6 := Lib.hid (HB5.out.trans (h6.mono HB5.out.size))
  clear h6
  go_wp2
  go_ret
  exact ⟨by first | rfl | (simp; done), HB2.out.trans (HB6.out.mono HB2.out.size)⟩
end Go.Proofs.YtdeapbihbhoefaaDoor
