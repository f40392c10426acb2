/- Part 9 of the texts of the claim: X3, S1, S2, S3, S4, S5, S6, S7, CopyI, S8, J1, J2, J3. -/
import Derived.Test.YtdeapbihbhoefaaGreatDoorMr8
import Derived.Test.YtdeapbihbhoefaaGreatDoorMr2
import Derived.Test.YtdeapbihbhoefaaGreatDoorMr4
import Derived.Test.YtdeapbihbhoefaaGreatDoorMr7
import Derived.Shelf.Abstract
import Derived.OwnWalkIn
import Derived.TacticsInMore
import Derived.LoopNIn
import Derived.LoopIn
import Derived.RangeFuncBox
import Derived.Test.YtdeapbihbhoefaaGreatDoorMr3
import Derived.Laws.CopyRow

/- (search).visit where nothing is left to visit: the louder of what is best so far and a list. -/
namespace Go.Proofs.YtdeapbihbhoefaaGreatDoor
open Go.RowKit
open Calm (bcell Blk)

/-- all that lay is as it was, but for one block. -/
structure But (sb : Nat) (w w' : World) : Prop where
  os : w'.os = w.os
  tape : w'.tape = w.tape
  output : w'.output = w.output
  size : w.heap.size ≤ w'.heap.size
  block : ∀ k, Rest sb w.heap.size k → w'.heap[k]? = w.heap[k]?
theorem But.refl (sb : Nat) (w : World) : But sb w w := ⟨rfl, rfl, rfl, Nat.le_refl _, fun _ _ => rfl⟩
theorem But.trans {sb : Nat} {a b c : World} (h : But sb a b) (k : But sb b c) : But sb a c :=
  ⟨k.os.trans h.os, k.tape.trans h.tape, k.output.trans h.output, Nat.le_trans h.size k.size, fun i hi => (k.block i ⟨Nat.lt_of_lt_of_le hi.1 h.size, hi.2⟩).trans (h.block i hi)⟩
theorem But.of {sb : Nat} {w w' : World} (h : Below w.heap.size w w') : But sb w w' := ⟨h.os, h.tape, h.output, h.size, fun k hk => h.block k hk.1⟩
theorem But.drawn {sb : Nat} (w : World) : But sb w { w with drawn := w.drawn + 1 } := ⟨rfl, rfl, rfl, Nat.le_refl _, fun _ _ => rfl⟩
theorem But.put {sb : Nat} (w : World) (i : Nat) (v : Value) : But sb w (w.setCell ⟨sb, i, none⟩ v) := ⟨rfl, rfl, rfl, by simp [World.setCell], fun k hk => Below.heap_setCell _ _ _ _ hk.2⟩
theorem But.below {sb B : Nat} {w w' : World} (h : But sb w w') (h1 : B ≤ sb) (h2 : B ≤ w.heap.size) : Below B w w' := ⟨h.os, h.tape, h.output, h.size, fun k hk => h.block k ⟨by omega, by omega⟩⟩
theorem Cells.but {w w' : World} {A : Option Addr} {zs : List Int} {sb : Nat} (h : Cells w A zs) (ho : Off sb A) (hW : But sb w w') : Cells w' A zs := h.rest ho hW.block
theorem Lim.but {w w' : World} {sb : Nat} (h : Lim w) (hs : sb ≠ 0) (hW : But sb w w') : Lim w' := h.rest hs hW.block
theorem blk_but {w w' : World} {g sb : Nat} {cs : Array Value} (h : Blk w g cs) (hg : g ≠ sb) (hW : But sb w w') : Blk w' g cs := h.of_block (hW.block g ⟨h.lt, hg⟩)

/-- the louder of what is best so far and a list. -/
def updB (b : Option (List Int)) (l : List Int) : Option (List Int) := match b with
  | none => some l
  | some b' => if enF b' < enF l then some l else some b'
/-- the best list of all that n further outputs make. -/
def visF (lk ht rc : Int) (ts ls : List Int) : Nat → List Int → St → Option (List Int) → Option (List Int)
  | 0, l, _, b => updB b l
  | n + 1, l, s, b => (keptK lk ht rc ts s ls ls.length).foldl (fun b x => visF lk ht rc ts ls n (l ++ [x.1]) x.2 b) b
theorem own_room {w : World} {base size n c : Nat} {e : TypeId} {A : Option Addr} {xs : List Value} (h : w.ownsRow base e size (.slice A n c) n xs) : n ≤ c ∧ c ≤ maxLen := by
  rcases h.2 with ⟨h1, h2⟩ | ⟨g, cap, cur, h1, _, _, h2, h3, _⟩
  · cases h1
    exact ⟨Nat.le_refl _, Nat.zero_le _⟩
  · cases h1
    exact ⟨h2, h3⟩
/-- a search, in its block. -/
def SB (lk ht rc : Int) (A1 A2 A5 : Option Addr) (M c1 L c2 N c5 : Nat) (sb : Nat) (b : Option (List Int)) (w : World) : Prop :=
  ∃ B d, Blk w sb #[(.int .i64 lk), (.int .i64 ht), .slice A1 M c1, (.int .i64 rc), .slice A2 L c2, .slice A5 N c5, .slice B (b.getD []).length d, (.int .i64 (enF (b.getD []))), .bool b.isSome] ∧ Cells w B (b.getD []) ∧ Off sb B ∧ (b.getD []).length ≤ d ∧ d ≤ maxLen
theorem SB.of {lk ht rc : Int} {A1 A2 A5 : Option Addr} {M c1 L c2 N c5 sb : Nat} {b : Option (List Int)} {w w' : World} (h : SB lk ht rc A1 A2 A5 M c1 L c2 N c5 sb b w) (hb : Below w.heap.size w w') : SB lk ht rc A1 A2 A5 M c1 L c2 N c5 sb b w' := by
  obtain ⟨B, d, h1, h2, h3⟩ := h
  exact ⟨B, d, h1.below hb, h2.below hb, h3⟩

/-- worlds that turn in one block alone, in its cells 6 and 7. -/
structure SetR (sb n : Nat) (l : List Int) (E : Int) (W W' : World) : Prop where
  but : But sb W W'
  rest : ∀ i, i ≠ 6 → i ≠ 7 → W'.cell? ⟨sb, i, none⟩ = W.cell? ⟨sb, i, none⟩
  fr : ∀ i, W'.frozen? ⟨sb, i, none⟩ = W.frozen? ⟨sb, i, none⟩
  c6 : W'.cell? ⟨sb, 6, none⟩ = W.cell? ⟨sb, 6, none⟩ ∨ ∃ B d, W'.cell? ⟨sb, 6, none⟩ = some (.slice B n d) ∧ Cells W' B l ∧ Off sb B ∧ n ≤ d ∧ d ≤ maxLen
  c7 : W'.cell? ⟨sb, 7, none⟩ = W.cell? ⟨sb, 7, none⟩ ∨ W'.cell? ⟨sb, 7, none⟩ = some (.int .i64 E)
theorem SetR.refl {sb n : Nat} {l : List Int} {E : Int} (W : World) : SetR sb n l E W W := ⟨But.refl _ _, fun _ _ _ => rfl, fun _ => rfl, .inl rfl, .inl rfl⟩
theorem SetR.trans {sb n : Nat} {l : List Int} {E : Int} (a b c : World) (h : SetR sb n l E a b) (k : SetR sb n l E b c) : SetR sb n l E a c := by
  refine ⟨h.but.trans k.but, fun i h1 h2 => (k.rest i h1 h2).trans (h.rest i h1 h2), fun i => (k.fr i).trans (h.fr i), ?_, ?_⟩
  · rcases k.c6 with e | e
    · rcases h.c6 with e' | ⟨B, d, e1, e2, e3⟩
      · exact .inl (e.trans e')
      · exact .inr ⟨B, d, e.trans e1, e2.but e3.1 k.but, e3⟩
    · exact .inr e
  · rcases k.c7 with e | e
    · rcases h.c7 with e' | e'
      · exact .inl (e.trans e')
      · exact .inr (e.trans e')
    · exact .inr e
theorem SetR.drawn {sb n : Nat} {l : List Int} {E : Int} (W : World) : SetR sb n l E W { W with drawn := W.drawn + 1 } := ⟨But.drawn W, fun _ _ _ => rfl, fun _ => rfl, .inl rfl, .inl rfl⟩
theorem SetR.of {sb n : Nat} {l : List Int} {E : Int} {W W' : World} (h : Below W.heap.size W W') (hs : sb < W.heap.size) : SetR sb n l E W W' :=
  ⟨But.of h, fun i _ _ => h.cell (p := ⟨sb, i, none⟩) hs, fun i => h.frozen (p := ⟨sb, i, none⟩) hs, .inl (h.cell (p := ⟨sb, 6, none⟩) hs), .inl (h.cell (p := ⟨sb, 7, none⟩) hs)⟩
def IsB (sb n : Nat) (l : List Int) (W : World) : Prop := ∃ B d, W.cell? ⟨sb, 6, none⟩ = some (.slice B n d) ∧ Cells W B l ∧ Off sb B ∧ n ≤ d ∧ d ≤ maxLen
theorem IsB.stays {sb n : Nat} {l : List Int} {E : Int} (W W' : World) (h : IsB sb n l W) (hS : SetR sb n l E W W') : IsB sb n l W' := by
  rcases hS.c6 with e | e
  · obtain ⟨B, d, h1, h2, h3⟩ := h
    exact ⟨B, d, e.trans h1, h2.but h3.1 hS.but, h3⟩
  · exact e
def IsE (sb : Nat) (E : Int) (W : World) : Prop := W.cell? ⟨sb, 7, none⟩ = some (.int .i64 E)
theorem IsE.stays {sb n : Nat} {l : List Int} {E : Int} (W W' : World) (h : IsE sb E W) (hS : SetR sb n l E W W') : IsE sb E W' := by
  rcases hS.c7 with e | e
  · exact e.trans h
  · exact e
theorem SetR.has6 {sb n : Nat} {l : List Int} {E : Int} {W W' : World} (hS : SetR sb n l E W W') {u : Value} (h : W.cell? ⟨sb, 6, none⟩ = some u) : ∃ u, W'.cell? ⟨sb, 6, none⟩ = some u := by
  rcases hS.c6 with e | ⟨B, d, e, _⟩
  · exact ⟨u, e.trans h⟩
  · exact ⟨_, e⟩
theorem SetR.has7 {sb n : Nat} {l : List Int} {E : Int} {W W' : World} (hS : SetR sb n l E W W') {u : Value} (h : W.cell? ⟨sb, 7, none⟩ = some u) : ∃ u, W'.cell? ⟨sb, 7, none⟩ = some u := by
  rcases hS.c7 with e | e
  · exact ⟨u, e.trans h⟩
  · exact ⟨_, e⟩
theorem SetR.blk {sb n : Nat} {l : List Int} {E : Int} {W W' : World} {a0 a1 a2 a3 a4 a5 u6 u7 u8 v6 v7 : Value} (hS : SetR sb n l E W W') (h : Blk W sb #[a0, a1, a2, a3, a4, a5, u6, u7, u8]) (h6 : W'.cell? ⟨sb, 6, none⟩ = some v6) (h7 : W'.cell? ⟨sb, 7, none⟩ = some v7) :
    Blk W' sb #[a0, a1, a2, a3, a4, a5, v6, v7, u8] := by
  refine ⟨Nat.lt_of_lt_of_le h.lt hS.but.size, fun i => ?_, fun i => (hS.fr i).trans (h.f i)⟩
  by_cases e6 : i = 6
  · subst e6; exact h6
  · by_cases e7 : i = 7
    · subst e7; exact h7
    · rw [hS.rest i e6 e7, h.c i]
      rcases Nat.lt_or_ge i 9 with h9 | h9
      · have : i = 0 ∨ i = 1 ∨ i = 2 ∨ i = 3 ∨ i = 4 ∨ i = 5 ∨ i = 8 := by omega
        rcases this with rfl | rfl | rfl | rfl | rfl | rfl | rfl <;> rfl
      · rw [Array.getElem?_eq_none (by simpa using h9), Array.getElem?_eq_none (by simpa using h9)]
theorem ne_off {sb i j : Nat} (h : i ≠ j) : (⟨sb, i, none⟩ : Addr) ≠ ⟨sb, j, none⟩ := fun e => h (by cases e; rfl)
theorem SetR.put6 {sb n : Nat} {l : List Int} {E : Int} {W : World} {u : Value} {B : Option Addr} {d : Nat} (hu : W.cell? ⟨sb, 6, none⟩ = some u) (hC : Cells W B l) (ho : Off sb B ∧ n ≤ d ∧ d ≤ maxLen) :
    IsB sb n l (W.setCell ⟨sb, 6, none⟩ (.slice B n d)) ∧ SetR sb n l E W (W.setCell ⟨sb, 6, none⟩ (.slice B n d)) := by
  have h6 := World.cell?_setCell_same W _ (.slice B n d) hu
  have hC' : Cells (W.setCell ⟨sb, 6, none⟩ (.slice B n d)) B l := hC.but ho.1 (But.put W 6 _)
  exact ⟨⟨B, d, h6, hC', ho⟩, But.put W 6 _, fun i h1 _ => World.cell?_setCell_other W _ _ _ (ne_off (by omega)), fun j => World.frozen?_setCell .., .inr ⟨B, d, h6, hC', ho⟩, .inl (World.cell?_setCell_other W _ _ _ (ne_off (by omega)))⟩
theorem SetR.put7 {sb n : Nat} {l : List Int} {E : Int} {W : World} {u : Value} (hu : W.cell? ⟨sb, 7, none⟩ = some u) :
    IsE sb E (W.setCell ⟨sb, 7, none⟩ (.int .i64 E)) ∧ SetR sb n l E W (W.setCell ⟨sb, 7, none⟩ (.int .i64 E)) := by
  have h7 := World.cell?_setCell_same W _ (.int .i64 E) hu
  exact ⟨h7, But.put W 7 _, fun i _ h2 => World.cell?_setCell_other W _ _ _ (ne_off (by omega)), fun j => World.frozen?_setCell .., .inl (World.cell?_setCell_other W _ _ _ (ne_off (by omega))), .inr h7⟩

namespace RelG
open Rel (Know Ctx deps facts ons GOK3)
variable {S : World → World → Prop} {P : Program} {DS : List Tmp} {w0 : World} {a0 : Act} {T : Ctx → Prop} {Γ : Ctx} {o : Oper} {rest : List Oper}
/-- A call of whose result R is known. -/
theorem callR3 (R : Know) (hs : Stable S R) (hof : ∀ W W', S w0 W → Below W.heap.size W W' → S W W') (hg : GOK3 Γ o)
    (h : ∀ (a : Act) (W : World), S w0 W → deps Γ a W (ons o) → (∀ t, t ∉ DS → a.eval (.tmp t) = a0.eval (.tmp t)) → ∃ f args, (execOp a.eval o).run P W = .ok (.enter f args) W ∧ Calls P f args W fun e W' => ∃ v, e = .returned v ∧ R v W' ∧ Below W.heap.size W W')
    (hn : walk3 S P DS w0 a0 T (Γ ++ [(o.dst, R)]) rest) : walk3 S P DS w0 a0 T Γ (o :: rest) :=
  ⟨R, hs, hg, fun a W hb hd hbase K Q hK => by
    obtain ⟨f, args, hrun, hc⟩ := h a W hb hd hbase
    unfold Oper.wp
    rw [hrun]
    simp only [Oper.upon]
    refine hc.mono ?_
    rintro e W' ⟨v, rfl, hR, hbb⟩
    exact hK v W' hR (hof W W' hb hbb), hn⟩
end RelG

set_option maxHeartbeats 4000000 in
set_option maxRecDepth 100000 in
theorem visit_zero (lk ht rc : Int) (s : St) (l : List Int) (b : Option (List Int)) (A1 A2 A3 A5 A6 : Option Addr) (M L Q N K c1 c2 c3 c5 c6 : Nat) (sb : Nat) (w : World) (hK : K = l.length) (hK2 : K ≤ 5000) (hX : Cells w A6 l) (hl : inB 2048 l) (hS : SB lk ht rc A1 A2 A5 M c1 L c2 N c5 sb b w) (o6 : Off sb A6) :
    Calls Tryz.prog 67 #[.pointer (some ⟨sb, 0, none⟩), .slice A6 K c6, .agg #[(.int .i64 (s.h)), (.int .i64 ((s.lv : Int))), .slice A3 Q c3], (.int .i64 0)] w fun r w' => r = .returned (.tuple #[]) ∧ SB lk ht rc A1 A2 A5 M c1 L c2 N c5 sb (updB b l) w' ∧ But sb w w' := by
  have HEN : Hid (∀ W, Cells W A6 l → Calls Tryz.prog 70 #[.slice A6 K c6] W fun r w' => r = .returned (.int .i64 (enF l)) ∧ W = w') := Lib.hid (fun W q => by rw [hK]; exact energy_any l A6 c6 W q hl (by omega))
  have HCL : Hid (∀ W, Cells W A6 l → Calls Tryz.prog 81 #[.slice A6 K c6] W fun r w' => (∃ B d, r = .returned (.slice B K d) ∧ w'.ownsRow W.heap.size 3 1 (.slice B K d) K (l.map (Value.int .i64))) ∧ Below W.heap.size W w') := Lib.hid (fun W q => clone_any l A6 K c6 W hK q hK2)
  have HX := Lib.hid hX
  have HO6 := Lib.hid o6
  have HK := Lib.hid hK
  obtain ⟨B0, d0, K0, hCB, hOB⟩ := hS
  have HK0 := Lib.hid K0
  have HU : Hid ((b = none ∨ enF (b.getD []) < enF l → updB b l = some l) ∧ (b.isSome = true → ¬ enF (b.getD []) < enF l → updB b l = b)) := Lib.hid (by
    cases b with
    | none => exact ⟨fun _ => rfl, fun h => by cases h⟩
    | some b' => exact ⟨fun h => if_pos (by rcases h with h | h; cases h; exact h), fun _ h => if_neg h⟩)
  have HST : Hid (∀ w', But sb w w' → Blk w' sb #[(.int .i64 lk), (.int .i64 ht), .slice A1 M c1, (.int .i64 rc), .slice A2 L c2, .slice A5 N c5, .slice B0 (b.getD []).length d0, (.int .i64 (enF (b.getD []))), .bool b.isSome] → SB lk ht rc A1 A2 A5 M c1 L c2 N c5 sb b w') := Lib.hid (fun w' hw hk => ⟨B0, d0, hk, hCB.but hOB.1 hw, hOB⟩)
  have HFN : Hid (b = none ∨ b.isSome = true) := Lib.hid (by cases b; exact .inl rfl; exact .inr rfl)
  have HF0 : Hid (b = none → b.isSome = false) := Lib.hid (by rintro rfl; rfl)
  obtain ⟨E, hE⟩ : ∃ E, E = enF l := ⟨_, rfl⟩
  obtain ⟨E0, hE0⟩ : ∃ E0, E0 = enF (b.getD []) := ⟨_, rfl⟩
  obtain ⟨n0, hn0⟩ : ∃ n0, n0 = (b.getD []).length := ⟨_, rfl⟩
  obtain ⟨F, hF⟩ : ∃ F, F = b.isSome := ⟨_, rfl⟩
  have HE := Lib.hid hE
  rw [← hE] at HEN HU
  rw [← hE0] at HU HST HK0
  rw [← hn0] at HST HK0
  rw [← hF] at HU HST HK0 HFN HF0
  obtain ⟨c00, c01, c02, c03, c04, c05, c06, c07, c08, l0, f0⟩ := HK0.out.o9
  clear hE hE0 hn0 hF hK hX hl o6 K0 hCB
  have sl1 : sb < w.heap.size + 1 := by omega
  have sl2 : sb < w.heap.size + 1 + 1 := by omega
  have sl3 : sb < w.heap.size + 1 + 1 + 1 := by omega
  have hcase : ((F = false ∨ F = true ∧ E0 < E) ∧ updB b l = some l) ∨ (F = true ∧ ¬ E0 < E ∧ updB b l = b) := by
    rcases HFN.out with h | h
    · exact .inl ⟨.inl (HF0.out h), HU.out.1 (.inl h)⟩
    · by_cases h2 : E0 < E
      · exact .inl ⟨.inr ⟨h, h2⟩, HU.out.1 (.inr h2)⟩
      · exact .inr ⟨h, h2, HU.out.2 h h2⟩
  rcases hcase with ⟨hF, hu⟩ | ⟨rfl, hlt, hu⟩
  · rw [hu]
    clear HU HST HFN HF0 hu
    rcases hF with rfl | ⟨rfl, hlt⟩
    all_goals (
      go_enter Tryz.func67, Tryz.ntmps67
      go_wp2_with (go_at_call 70; refine (HEN.out _ (HX.out.below (by (repeat (first | (with_reducible exact Below.refl _ _) | ((with_reducible refine Below.setCell ?_ ?_ _); rotate_left 1; focus (first | (simp; done) | (simp; omega) | (simp at *; omega))) | ((with_reducible refine Below.alloc ?_ ?_ _); rotate_left 1; focus (first | (simp; done) | (simp; omega) | (simp at *; omega))) | (with_reducible refine Below.drew ?_) | ((with_reducible refine Calm.step (by assumption) ?_ ?_); rotate_left 1; focus (first | (simp; done) | (simp; omega) | (simp at *; omega)))))))).mono ?_; rintro r w1 ⟨rfl, rfl⟩)
      refine name_world ?_
      intro w4 e4
      have KS := (show Blk w4 sb _ from by rw [e4]; exact HK0.out.below (by (repeat (first | (with_reducible exact Below.refl _ _) | ((with_reducible refine Below.setCell ?_ ?_ _); rotate_left 1; focus (first | (simp; done) | (simp; omega) | (simp at *; omega))) | ((with_reducible refine Below.alloc ?_ ?_ _); rotate_left 1; focus (first | (simp; done) | (simp; omega) | (simp at *; omega))) | (with_reducible refine Below.drew ?_) | ((with_reducible refine Calm.step (by assumption) ?_ ?_); rotate_left 1; focus (first | (simp; done) | (simp; omega) | (simp at *; omega)))))))
      have P4 : Blk w4 w.heap.size #[.pointer (some ⟨sb, 0, none⟩)] := by rw [e4]; (repeat (first | ((with_reducible refine Blk.at_ ?_); focus (first | rfl | (simp; done) | (simp; omega))) | (with_reducible refine Blk.alloc ?_ _) | (with_reducible refine Blk.below ?_ (by with_reducible assumption)) | (with_reducible refine Blk.drew ?_)))
      have P5 : Blk w4 (w.heap.size + 1) #[.slice A6 K c6] := by rw [e4]; (repeat (first | ((with_reducible refine Blk.at_ ?_); focus (first | rfl | (simp; done) | (simp; omega))) | (with_reducible refine Blk.alloc ?_ _) | (with_reducible refine Blk.below ?_ (by with_reducible assumption)) | (with_reducible refine Blk.drew ?_)))
      have HX4 := Lib.hid (show Cells w4 A6 l from by rw [e4]; exact HX.out.below (by (repeat (first | (with_reducible exact Below.refl _ _) | ((with_reducible refine Below.setCell ?_ ?_ _); rotate_left 1; focus (first | (simp; done) | (simp; omega) | (simp at *; omega))) | ((with_reducible refine Below.alloc ?_ ?_ _); rotate_left 1; focus (first | (simp; done) | (simp; omega) | (simp at *; omega))) | (with_reducible refine Below.drew ?_) | ((with_reducible refine Calm.step (by assumption) ?_ ?_); rotate_left 1; focus (first | (simp; done) | (simp; omega) | (simp at *; omega)))))))
      have HB4 := Lib.hid (show But sb w w4 from by rw [e4]; exact But.of (by (repeat (first | (with_reducible exact Below.refl _ _) | ((with_reducible refine Below.setCell ?_ ?_ _); rotate_left 1; focus (first | (simp; done) | (simp; omega) | (simp at *; omega))) | ((with_reducible refine Below.alloc ?_ ?_ _); rotate_left 1; focus (first | (simp; done) | (simp; omega) | (simp at *; omega))) | (with_reducible refine Below.drew ?_) | ((with_reducible refine Calm.step (by assumption) ?_ ?_); rotate_left 1; focus (first | (simp; done) | (simp; omega) | (simp at *; omega)))))))
      clear e4 c00 c01 c02 c03 c04 c05 c06 c07 c08 f0
      have HKS := Lib.hid KS
      have ls := KS.lt
      have hTC : Hid (∀ W, SetR sb K l E w4 W → (∀ o, W.cell? ⟨w.heap.size, o, none⟩ = w4.cell? ⟨w.heap.size, o, none⟩) ∧ (∀ o, W.cell? ⟨w.heap.size + 1, o, none⟩ = w4.cell? ⟨w.heap.size + 1, o, none⟩)) := Lib.hid (fun W hS =>
        ⟨fun o => World.cell?_of_block (w := w4) (a := ⟨w.heap.size, o, none⟩) (hS.but.block _ ⟨P4.lt, (show w.heap.size ≠ sb from by omega)⟩), fun o => World.cell?_of_block (w := w4) (a := ⟨w.heap.size + 1, o, none⟩) (hS.but.block _ ⟨P5.lt, (show w.heap.size + 1 ≠ sb from by omega)⟩)⟩)
      obtain ⟨p4, p4l, p4f⟩ := P4.o1
      obtain ⟨p5, p5l, p5f⟩ := P5.o1
      clear KS P4 P5
      (try simp only [Act.put, List.setIfInBounds_toArray, List.set_cons_zero, List.set_cons_succ])
      refine RelG.region3 (S := SetR sb K l E) SetR.trans SetR.drawn 14 (by kernel_rfl) (by kernel_rfl) (by kernel_rfl) ?_
      simp only [List.take_succ_cons, List.take_zero, List.drop_succ_cons, List.drop_zero, List.filterMap_cons, List.filterMap_nil]
      iterate 4 (apply RelG.op3 SetR.refl; (focus (first | exact Rel.gno rfl | exact Rel.gyes _ true _ rfl rfl rfl | exact Rel.gyes _ false _ rfl rfl rfl)); (focus (intro a W hb hd hbase; obtain ⟨hc4, hc5⟩ := hTC.out W hb; clear hb; simp [Rel.deps, Rel.dep1, Rel.ons, Region.binds, Act.eval] at hd; simp only [Act.eval, List.mem_cons, List.not_mem_nil, not_or, and_imp, or_false, Array.getD_eq_getD_getElem?] at hbase; go_simp; (try go_bits); (try rfl); done)); (try simp only [List.nil_append, List.cons_append]))
      refine RelG.callR3 (fun u W => ∃ B d, u = .slice B K d ∧ Cells W B l ∧ Off sb B ∧ K ≤ d ∧ d ≤ maxLen) (fun u W W' h hS => by
        obtain ⟨B, d, h1, h2, h3⟩ := h
        exact ⟨B, d, h1, h2.but h3.1 hS.but, h3⟩) (fun W W' hS hb => SetR.of hb (Nat.lt_of_lt_of_le ls hS.but.size)) (Rel.gno rfl) ?_ ?_
      · intro a W hb hd hbase
        refine ⟨81, #[.slice A6 K c6], ?_, (HCL.out W (HX4.out.but HO6.out hb.but)).mono ?_⟩
        · clear hb
          simp [Rel.deps, Rel.dep1, Rel.ons, Region.binds, Act.eval] at hd; simp only [Act.eval, List.mem_cons, List.not_mem_nil, not_or, and_imp, or_false, Array.getD_eq_getD_getElem?] at hbase
          go_simp
          (first | done | rfl | (refine ⟨?_, ?_⟩ <;> rfl))
        · rintro e W' ⟨⟨B, d, rfl, ho⟩, hbb⟩
          obtain ⟨B', d', e1, hge, hcc⟩ := own_ints ho HK.out
          cases e1
          refine ⟨_, rfl, ⟨B, d, rfl, hcc, fun p hp => ?_, own_room ho⟩, hbb⟩
          have h1 := hge p hp
          have h2 := hb.but.size
          omega
      (try simp only [List.nil_append, List.cons_append])
      iterate 3 (apply RelG.op3 SetR.refl; (focus (first | exact Rel.gno rfl | exact Rel.gyes _ true _ rfl rfl rfl | exact Rel.gyes _ false _ rfl rfl rfl)); (focus (intro a W hb hd hbase; obtain ⟨hc4, hc5⟩ := hTC.out W hb; clear hb; simp [Rel.deps, Rel.dep1, Rel.ons, Region.binds, Act.eval] at hd; simp only [Act.eval, List.mem_cons, List.not_mem_nil, not_or, and_imp, or_false, Array.getD_eq_getD_getElem?] at hbase; go_simp; (try go_bits); (try rfl); done)); (try simp only [List.nil_append, List.cons_append]))
      refine RelG.store3 (IsB sb K l) IsB.stays (Rel.gno rfl) ?_ ?_
      · intro a W hb hd hbase
        obtain ⟨u6, hu6⟩ := hb.has6 (HKS.out.cell 6 _ rfl)
        have hf6 := (hb.fr 6).trans (HKS.out.f 6)
        clear hb
        simp [Rel.deps, Rel.dep1, Rel.ons, Region.binds, Act.eval] at hd
        obtain ⟨h35, ⟨B, d, h32, hcc, hoo⟩, _⟩ := hd
        obtain ⟨r1, r2⟩ := SetR.put6 (n := K) (l := l) (E := E) (d := d) hu6 hcc hoo
        refine ⟨_, ?_, r1, r2⟩
        clear r1 r2 hcc
        go_simp
      (try simp only [List.nil_append, List.cons_append])
      iterate 2 (apply RelG.op3 SetR.refl; (focus (first | exact Rel.gno rfl | exact Rel.gyes _ true _ rfl rfl rfl | exact Rel.gyes _ false _ rfl rfl rfl)); (focus (intro a W hb hd hbase; obtain ⟨hc4, hc5⟩ := hTC.out W hb; clear hb; simp [Rel.deps, Rel.dep1, Rel.ons, Region.binds, Act.eval] at hd; simp only [Act.eval, List.mem_cons, List.not_mem_nil, not_or, and_imp, or_false, Array.getD_eq_getD_getElem?] at hbase; go_simp; (try go_bits); (try rfl); done)); (try simp only [List.nil_append, List.cons_append]))
      refine RelG.store3 (IsE sb E) IsE.stays (Rel.gno rfl) ?_ ?_
      · intro a W hb hd hbase
        obtain ⟨u7, hu7⟩ := hb.has7 (HKS.out.cell 7 _ rfl)
        have hf7 := (hb.fr 7).trans (HKS.out.f 7)
        clear hb
        simp [Rel.deps, Rel.dep1, Rel.ons, Region.binds, Act.eval] at hd
        obtain ⟨r1, r2⟩ := SetR.put7 (n := K) (l := l) (E := E) hu7
        refine ⟨_, ?_, r1, r2⟩
        clear r1 r2
        obtain ⟨h37, h33, -⟩ := hd
        go_simp
      (try simp only [List.nil_append, List.cons_append])
      iterate 2 (apply RelG.op3 SetR.refl; (focus (first | exact Rel.gno rfl | exact Rel.gyes _ true _ rfl rfl rfl | exact Rel.gyes _ false _ rfl rfl rfl)); (focus (intro a W hb hd hbase; obtain ⟨hc4, hc5⟩ := hTC.out W hb; clear hb; simp [Rel.deps, Rel.dep1, Rel.ons, Region.binds, Act.eval] at hd; simp only [Act.eval, List.mem_cons, List.not_mem_nil, not_or, and_imp, or_false, Array.getD_eq_getD_getElem?] at hbase; go_simp; (try go_bits); (try rfl); done)); (try simp only [List.nil_append, List.cons_append]))
      refine RelG.done3 ?_
      intro x w5 hS hx
      simp only [Rel.facts, Nat.zero_add, Nat.reduceAdd] at hx
      obtain ⟨e0, e1, e2, e3, ⟨B, d, e4, -, -⟩, e5, e6, e7, s8, e9, e10, s11, e12, e13, _⟩ := hx
      simp only [RelG.fill, Nat.zero_add, Nat.reduceAdd, e0, e1, e2, e3, e4, e5, e6, e7, e9, e10, e12, e13]
      simp only [Act.put, List.setIfInBounds_toArray, List.set_cons_zero, List.set_cons_succ]
      obtain ⟨B6, d6, z6, hC6, hO6'⟩ := s8
      have K5 := hS.blk HKS.out z6 s11
      have HK5 := Lib.hid K5
      have HB5 := Lib.hid (HB4.out.trans hS.but)
      have HC6 := Lib.hid hC6
      have HO5 := Lib.hid hO6'
      obtain ⟨c00, c01, c02, c03, c04, c05, c06, c07, c08, l5, f5⟩ := K5.o9
      clear hS e0 e1 e2 e3 e4 e5 e6 e7 z6 s11 e9 e10 e12 e13 K5 hC6 hO6' p4 p4l p4f p5 p5l p5f
      go_wp2
      refine bodyPost_ret (v := .tuple #[]) (by simp [results, Tryz.results67, go_sem]) rfl ⟨rfl, ⟨B6, d6, ?_, ?_, HO5.out.1, by have h := HO5.out.2; rw [HK.out] at h; exact h⟩, HB5.out.trans (But.put w5 8 _)⟩
      · have h8 := HK5.out.set (i := 8) (by simp) (.bool true)
        show Blk _ sb #[(.int .i64 lk), (.int .i64 ht), .slice A1 M c1, (.int .i64 rc), .slice A2 L c2, .slice A5 N c5, .slice B6 l.length d6, (.int .i64 (enF l)), .bool true]
        rw [← HK.out, ← HE.out]
        exact h8
      · exact HC6.out.but HO5.out.1 (But.put w5 8 _))
  · rw [hu]
    go_enter Tryz.func67, Tryz.ntmps67
    go_wp2_with (go_at_call 70; refine (HEN.out _ (HX.out.below (by (repeat (first | (with_reducible exact Below.refl _ _) | ((with_reducible refine Below.setCell ?_ ?_ _); rotate_left 1; focus (first | (simp; done) | (simp; omega) | (simp at *; omega))) | ((with_reducible refine Below.alloc ?_ ?_ _); rotate_left 1; focus (first | (simp; done) | (simp; omega) | (simp at *; omega))) | (with_reducible refine Below.drew ?_) | ((with_reducible refine Calm.step (by assumption) ?_ ?_); rotate_left 1; focus (first | (simp; done) | (simp; omega) | (simp at *; omega)))))))).mono ?_; rintro r w1 ⟨rfl, rfl⟩)
    refine bodyPost_ret (v := .tuple #[]) (by simp [results, Tryz.results67, go_sem]) rfl ?_
    refine ⟨rfl, HST.out _ (But.of ?_) (HK0.out.below ?_), But.of ?_⟩ <;> (repeat (first | (with_reducible exact Below.refl _ _) | ((with_reducible refine Below.setCell ?_ ?_ _); rotate_left 1; focus (first | (simp; done) | (simp; omega) | (simp at *; omega))) | ((with_reducible refine Below.alloc ?_ ?_ _); rotate_left 1; focus (first | (simp; done) | (simp; omega) | (simp at *; omega))) | (with_reducible refine Below.drew ?_) | ((with_reducible refine Calm.step (by assumption) ?_ ?_); rotate_left 1; focus (first | (simp; done) | (simp; omega) | (simp at *; omega)))))
end Go.Proofs.YtdeapbihbhoefaaGreatDoor

/- Contracts of the small functions of package section. -/
namespace Go.Proofs.YtdeapbihbhoefaaGreatDoor
open Go.RowKit
open Calm (bcell Blk)

end Go.Proofs.YtdeapbihbhoefaaGreatDoor

/- Contracts of numbers, CheckSection and CheckState. -/
namespace Go.Proofs.YtdeapbihbhoefaaGreatDoor
open Go.RowKit
open Calm (bcell Blk)

end Go.Proofs.YtdeapbihbhoefaaGreatDoor

/- Contracts of mapped over sections and of checkSections. -/
namespace Go.Proofs.YtdeapbihbhoefaaGreatDoor
open Go.RowKit
open Calm (bcell Blk)

structure Sec where
  b0 : Int
  b1 : Int
  b2 : Int
  a1 : Int
  a2 : Int
  sh : Int
end Go.Proofs.YtdeapbihbhoefaaGreatDoor

/- Contracts of raw, limited and step of sections. -/
namespace Go.Proofs.YtdeapbihbhoefaaGreatDoor
open Go.RowKit
open Calm (bcell Blk)

end Go.Proofs.YtdeapbihbhoefaaGreatDoor

/- Contracts of (Section).outputs and of the iterator that it hands out. -/
namespace Go.Proofs.YtdeapbihbhoefaaGreatDoor
open Go.RowKit
open Calm (bcell Blk)

end Go.Proofs.YtdeapbihbhoefaaGreatDoor

/- Contract of (Section).from. -/
namespace Go.Proofs.YtdeapbihbhoefaaGreatDoor
open Go.RowKit
open Calm (bcell Blk)

end Go.Proofs.YtdeapbihbhoefaaGreatDoor

/- Contracts of From and Run (sections that hold). -/
namespace Go.Proofs.YtdeapbihbhoefaaGreatDoor
open Go.RowKit
open Calm (bcell Blk)

end Go.Proofs.YtdeapbihbhoefaaGreatDoor

/- The law of copy between slices of integers, as contracts speak of them. -/
namespace Go.Proofs.YtdeapbihbhoefaaGreatDoor
open Go.RowKit

theorem run_copyI {P : Program} (w : World) (dT sT ty elem : TypeId) (g : Nat) (A : Option Addr) (xs : List Int) (n cap c : Nat) (cur : Array Value) (t : TypeId)
    (hu : P.underlying dT = some (.slice elem)) (hs : (P.info? elem).map (·.size) = some 1) (hn : xs.length ≤ n)
    (hg : w.heap[g]? = some (.cells cur t (0, 0))) (hcur : cur.size = n) (hC : Cells w A xs) :
    (Builtin.copy_ #[dT, sT] ty #[.slice (some ⟨g, 0, none⟩) n cap, .slice A xs.length c]).run P w = .ok (goInt xs.length) (w.setRow g (xs.map (Value.int .i64) ++ cur.toList.drop xs.length).toArray) := by
  have hmin : Nat.min xs.length n = xs.length := Nat.min_eq_left hn
  cases A with
  | some a =>
    have := run_copy_row (P := P) w dT sT ty elem g 0 n cap a xs.length c cur t (xs.map (Value.int .i64)) hu hs hg (by rw [hmin]; simp) (fun j v hj => by
      have hj' : j < xs.length := by
        have := (List.getElem?_eq_some_iff.1 hj).1
        simpa using this
      obtain ⟨b, o, hA, hl, hc⟩ := hC (by omega)
      cases hA
      exact cells_src hc j v hj) (by simp; omega) (fun v hv => by obtain ⟨_, _, rfl⟩ := List.mem_map.1 hv; rfl)
    simpa using this
  | none =>
    have h0 : xs = [] := by
      cases xs with
      | nil => rfl
      | cons x xs => obtain ⟨b, o, hA, _⟩ := hC (by simp); cases hA
    subst h0
    have hself : w.setRow g cur = w := setRow_self w g cur t _ hg
    cases hq : P.info? elem with
    | none => simp [hq] at hs
    | some i => simp [Builtin.copy_, run_underlying hu, Builtin.lenOf, Builtin.firstCells, sizeOf, typeInfo, hq, storeCells, hself]
theorem wpList_copyI {P : Program} {w : World} {ops : Array Oper} {rest : List Oper} {o : Oper} {a : Act} {Q : Exit → Act → World → Prop} (hgd : o.guard = none) (d s : Operand) (dT sT : TypeId)
    (ho : o.op = .call { callee := .builtin .copy, args := #[d, s], argTypes := #[dT, sT] }) (elem : TypeId) (hu : P.underlying dT = some (.slice elem)) (hsz : (P.info? elem).map (·.size) = some 1)
    (g n m cap c : Nat) (A : Option Addr) (xs : List Int) (hm : xs.length = m) (hn : m ≤ n) (hd : a.eval d = .slice (some ⟨g, 0, none⟩) n cap) (hs : a.eval s = .slice A m c)
    (cur : Array Value) (t : TypeId) (hg : w.heap[g]? = some (.cells cur t (0, 0))) (hcur : cur.size = n) (hC : Cells w A xs)
    (h : ∀ w', w'.heap.size = w.heap.size → Below g w w' → (∀ k, k ≠ g → w'.heap[k]? = w.heap[k]?) → w'.heap[g]? = some (.cells (xs.map (Value.int .i64) ++ cur.toList.drop m).toArray t (0, 0)) → wpList P ops Q rest (a.put o.dst (goInt m)) w') : wpList P ops Q (o :: rest) a w := by
  subst hm
  refine wpList_plain hgd fun K hK => ?_
  have hrun := run_copyI (P := P) w dT sT o.type elem g A xs n cap c cur t hu hsz hn hg hcur hC
  unfold Oper.wp
  simp [execOp, ho, resolve, invoke, builtin, hd, hs, hrun, Result.andThen]
  exact hK _ _ (h _ (by simp [World.setRow]) (below_setRow (Below.refl _ _) (Nat.le_refl _) _) (fun k hk => setRow_other w g k _ hk) (setRow_heap w g _ _ t _ hg))
end Go.Proofs.YtdeapbihbhoefaaGreatDoor

/- Contract of Cascade (sections and a signal that hold). -/
namespace Go.Proofs.YtdeapbihbhoefaaGreatDoor
open Go.RowKit
open Calm (bcell Blk)

theorem eachErr_zero {l : List Int} {lo hi : Int} : eachErr l lo hi = 0 ↔ ∀ n ∈ l, lo ≤ n ∧ n ≤ hi := by
  unfold eachErr
  rw [firstOf_eq_zero]
  constructor
  · exact fun h n hn => rangeErr_zero.1 (h _ (List.mem_map.2 ⟨n, hn, rfl⟩))
  · rintro h x hx
    obtain ⟨n, hn, rfl⟩ := List.mem_map.1 hx
    exact rangeErr_zero.2 (h n hn)
end Go.Proofs.YtdeapbihbhoefaaGreatDoor

/- Contracts of the references: First, CheckRange, SameInts, CheckInput, CheckValue, CheckSignal. -/
namespace Go.Proofs.YtdeapbihbhoefaaGreatDoor
open Go.RowKit
open Calm (bcell Blk)

theorem qRange_any (n lo hi : Int) (w : World) : Calls Tryz.prog 44 #[(.int .i64 n), (.int .i64 lo), (.int .i64 hi)] w fun r w' => r = .returned (.int .i64 (rangeErr n lo hi)) ∧ w = w' := by
  rcases Int.lt_or_le n lo with h | h
  · go_enter Tryz.func44, Tryz.ntmps44
    go_wp2
    go_ret
    exact ⟨ret_i (rangeErr_lo h).symm, rfl⟩
  · rcases Int.lt_or_le hi n with h' | h'
    · go_enter Tryz.func44, Tryz.ntmps44
      go_wp2
      go_ret
      exact ⟨ret_i (rangeErr_hi h').symm, rfl⟩
    · go_enter Tryz.func44, Tryz.ntmps44
      go_wp2
      go_ret
      exact ⟨ret_i (rangeErr_in (by omega) (by omega)).symm, rfl⟩
theorem pValue_any (n : Int) (w : World) : Calls Tryz.prog 48 #[(.int .i64 n)] w fun r w' => r = .returned (.int .i64 (rangeErr n (-2048) 2048)) ∧ w = w' := by
  go_enter Tryz.func48, Tryz.ntmps48
  go_wp2_with (go_at_call 44; refine (qRange_any _ _ _ _).mono ?_; rintro r w' ⟨rfl, rfl⟩)
  go_ret
  exact ⟨rfl, rfl⟩
theorem qFirst_any (l : List Int) (A : Option Addr) (c : Nat) (w : World) (hl : l.length ≤ 5000) (hC : Cells w A l) :
    Calls Tryz.prog 43 #[.slice A l.length c] w fun r w' => r = .returned (.int .i64 (firstOf l)) ∧ w = w' := by
  go_enter Tryz.func43, Tryz.ntmps43
  go_wp2
  go_loop [3] (fun i => ∃ k : Nat, k ≤ l.length ∧ i = (.int .i64 k) ∧ ∀ j, j < k → l.getD j 0 = 0) (fun i => l.length - (intOf i).toNat)
  case atStart => exact ⟨0, Nat.zero_le _, rfl, fun j hj => by omega⟩
  case round =>
    obtain ⟨k, hk, rfl, hz⟩ := hrel
    have HZ := Lib.hid hz
    clear hz
    by_cases hlt : k < l.length
    · obtain ⟨b, off, rfl, hbl, hc⟩ := hC (by omega)
      have hck := hc k hlt
      clear hc hC
      by_cases h0 : l.getD k 0 = 0
      · rw [h0] at hck
        have H0 := Lib.hid h0
        clear h0
        go_wp2
        go_round
        case rel => exact ⟨k + 1, by omega, by go_num, fun j hj => by
          rcases Nat.lt_or_ge j k with hjk | hjk
          · exact HZ.out j hjk
          · obtain rfl : j = k := by omega
            exact H0.out⟩
        case measure => simp [intOf]; omega
      · obtain ⟨x, hx⟩ : ∃ x, x = l.getD k 0 := ⟨_, rfl⟩
        rw [← hx] at hck h0
        have H0 := Lib.hid hx
        clear hx
        go_wp2
        go_ret
        exact ⟨ret_i (by rw [firstOf_take HZ.out hlt (by rw [← H0.out]; exact h0)]; exact H0.out), rfl⟩
    · clear hC
      go_wp2
      go_ret
      exact ⟨ret_i (by rw [firstOf_zero (fun j hj => HZ.out j (by omega))]), rfl⟩
set_option maxRecDepth 100000 in
set_option maxHeartbeats 4000000 in
theorem sameInts_any (A B : Option Addr) (a b : List Int) (ca cb : Nat) (w : World) (hA : Cells w A a) (hB : Cells w B b) (h1 : a.length ≤ 100000) (h2 : b.length ≤ 100000) :
    Calls Tryz.prog 28 #[.slice A a.length ca, .slice B b.length cb] w fun x w' => x = .returned (.bool (decide (a = b))) ∧ Below w.heap.size w w' := by
  obtain ⟨E, hE⟩ : ∃ E, E = decide (a = b) := ⟨_, rfl⟩
  have HE := Lib.hid hE
  have HCA := Lib.hid hA
  have HCB := Lib.hid hB
  obtain ⟨N, hN⟩ : ∃ N, N = a.length := ⟨_, rfl⟩
  obtain ⟨M, hM⟩ : ∃ M, M = b.length := ⟨_, rfl⟩
  have HN := Lib.hid hN
  have HM := Lib.hid hM
  rw [← hE]
  rw [← hN] at h1 ⊢
  rw [← hM] at h2 ⊢
  clear hE hA hB hN hM
  by_cases hnm : N = M
  · have HNM := Lib.hid hnm
    subst hnm
    go_enter Tryz.func28, Tryz.ntmps28
    go_wp2
    go_loopw [5] (fun i wr => ∃ k : Nat, k ≤ N ∧ i = (.int .i64 ((k : Nat))) ∧ (∀ j, j < k → a.getD j 0 = b.getD j 0) ∧ Below w.heap.size w wr) (fun i _ => N - (intOf i).toNat)
    case atStart => exact ⟨0, by omega, rfl, fun j hj => by omega, Below.refl _ _⟩
    case round =>
      obtain ⟨k, hk, rfl, hz, hBr⟩ := hrel
      have HZ := Lib.hid hz
      have HBR := Lib.hid hBr
      have hszr := hBr.size
      clear hz hBr
      by_cases hlt : k < N
      · have l1 : k < a.length := by rw [← HN.out]; exact hlt
        have l2 : k < b.length := by rw [← HM.out]; exact hlt
        obtain ⟨g, o, rfl, q1, k1⟩ := (HCA.out.below HBR.out) (by omega)
        obtain ⟨g', o', rfl, q2, k2⟩ := (HCB.out.below HBR.out) (by omega)
        have y1 := k1 k l1
        have y2 := k2 k l2
        obtain ⟨x, hx⟩ : ∃ x, x = a.getD k 0 := ⟨_, rfl⟩
        obtain ⟨y, hy⟩ : ∃ y, y = b.getD k 0 := ⟨_, rfl⟩
        rw [← hx] at y1
        rw [← hy] at y2
        have HX := Lib.hid hx
        have HY := Lib.hid hy
        clear k1 k2 hx hy l1 l2
        by_cases hxy : x = y
        · subst hxy
          go_wp2
          refine Calm.tail_below 8 (by kernel_rfl) (by kernel_rfl) ?_
          simp only [List.take_succ_cons, List.take_zero, List.drop_succ_cons, List.drop_zero]
          repeat (first | (apply Calm.op_move; (focus rfl); (focus (first | exact .inl rfl | exact .inr rfl)); (focus ((try simp only [Act.eval, Array.getD_eq_getD_getElem?, List.getElem?_toArray, List.getElem?_cons_succ, List.getElem?_cons_zero, Option.getD_some]); rfl)); (try simp only [Act.put, List.setIfInBounds_toArray, List.set_cons_zero, List.set_cons_succ])) | (apply Calm.op_not; (focus rfl); (try simp only [Act.put, List.setIfInBounds_toArray, List.set_cons_zero, List.set_cons_succ])) | (apply Calm.op; (focus rfl); (focus (intro W hb; obtain ⟨hc, hf⟩ := bcell hb; clear hb hf; go_simp; (try go_bits); (try rfl); done)); (try simp only [Act.put, List.setIfInBounds_toArray, List.set_cons_zero, List.set_cons_succ])))
          refine wpQuiet_nil ?_
          intro w2 hb2
          obtain ⟨hb2c, hb2f⟩ := bcell hb2
          have hb2z := hb2.size
          (try simp at hb2z)
          (try have hb2z0 : w.heap.size < w2.heap.size := by omega)
          (try have hb2z1 : w.heap.size + 1 < w2.heap.size := by omega)
          (try have hb2z2 : w.heap.size + 1 + 1 < w2.heap.size := by omega)
          (try have hb2z3 : w.heap.size + 1 + 1 + 1 < w2.heap.size := by omega)
          (try have hb2z4 : w.heap.size + 1 + 1 + 1 + 1 < w2.heap.size := by omega)
          (try have hb2z5 : w.heap.size + 1 + 1 + 1 + 1 + 1 < w2.heap.size := by omega)
          go_wp2
          go_roundw
          case rel =>
            refine ⟨k + 1, by omega, by go_num, fun j hj => ?_, HBR.out.trans (hb2.mono hszr)⟩
            rcases Nat.lt_or_ge j k with h | h
            · exact HZ.out j h
            · obtain rfl : j = k := by omega
              rw [← HX.out, ← HY.out]
          case measure => simp [intOf]; omega
        · have HEE := Lib.hid (show E = false by
            rw [HE.out]
            refine decide_eq_false (fun e => hxy ?_)
            rw [HX.out, HY.out, e])
          go_wp2
          refine Calm.tail_below 8 (by kernel_rfl) (by kernel_rfl) ?_
          simp only [List.take_succ_cons, List.take_zero, List.drop_succ_cons, List.drop_zero]
          repeat (first | (apply Calm.op_move; (focus rfl); (focus (first | exact .inl rfl | exact .inr rfl)); (focus ((try simp only [Act.eval, Array.getD_eq_getD_getElem?, List.getElem?_toArray, List.getElem?_cons_succ, List.getElem?_cons_zero, Option.getD_some]); rfl)); (try simp only [Act.put, List.setIfInBounds_toArray, List.set_cons_zero, List.set_cons_succ])) | (apply Calm.op_not; (focus rfl); (try simp only [Act.put, List.setIfInBounds_toArray, List.set_cons_zero, List.set_cons_succ])) | (apply Calm.op; (focus rfl); (focus (intro W hb; obtain ⟨hc, hf⟩ := bcell hb; clear hb hf; go_simp; (try go_bits); (try rfl); done)); (try simp only [Act.put, List.setIfInBounds_toArray, List.set_cons_zero, List.set_cons_succ])))
          refine wpQuiet_nil ?_
          intro w2 hb2
          obtain ⟨hb2c, hb2f⟩ := bcell hb2
          have hb2z := hb2.size
          (try simp at hb2z)
          (try have hb2z0 : w.heap.size < w2.heap.size := by omega)
          (try have hb2z1 : w.heap.size + 1 < w2.heap.size := by omega)
          (try have hb2z2 : w.heap.size + 1 + 1 < w2.heap.size := by omega)
          (try have hb2z3 : w.heap.size + 1 + 1 + 1 < w2.heap.size := by omega)
          (try have hb2z4 : w.heap.size + 1 + 1 + 1 + 1 < w2.heap.size := by omega)
          (try have hb2z5 : w.heap.size + 1 + 1 + 1 + 1 + 1 < w2.heap.size := by omega)
          go_wp2
          go_ret
          exact ⟨by rw [HEE.out]; rfl, HBR.out.trans (hb2.mono hszr)⟩
      · obtain rfl : k = N := by omega
        have HEE := Lib.hid (show E = true by
          rw [HE.out]
          refine decide_eq_true (List.ext_getElem? fun i => ?_)
          have hl : a.length = b.length := HN.out.symm.trans HM.out
          rcases Nat.lt_or_ge i a.length with h | h
          · have := HZ.out i (by rw [HN.out]; exact h)
            simpa [h, show i < b.length by omega] using this
          · rw [List.getElem?_eq_none h, List.getElem?_eq_none (by omega)])
        go_wp2
        go_ret
        exact ⟨by rw [HEE.out]; rfl, HBR.out⟩
  · have HEE := Lib.hid (show E = false by
      rw [HE.out]
      refine decide_eq_false (fun e => hnm ?_)
      rw [HN.out, HM.out, e])
    have hnm2 : ¬ (N : Int) = (M : Int) := by omega
    go_enter Tryz.func28, Tryz.ntmps28
    go_wp2
    go_ret
    exact ⟨by rw [HEE.out]; rfl, Below.refl _ _⟩
end Go.Proofs.YtdeapbihbhoefaaGreatDoor

/- Contracts of the reference's numbers, CheckSection, CheckSections. -/
namespace Go.Proofs.YtdeapbihbhoefaaGreatDoor
open Go.RowKit
open Calm (bcell Blk)

theorem first0 (e : Int) : firstOf [0, e] = e := by by_cases h0 : e = 0 <;> simp [firstOf, h0]
end Go.Proofs.YtdeapbihbhoefaaGreatDoor

/- A guard's error, number by number; a guard without error is valid. No walk. -/
namespace Go.Proofs.YtdeapbihbhoefaaGreatDoor
open Go.RowKit

theorem fo_cons0 (l : List Int) : firstOf (0 :: l) = firstOf l := by simp [firstOf]
theorem fo_consN {a : Int} (h : a ≠ 0) (l : List Int) : firstOf (a :: l) = a := by simp [firstOf, h]
theorem fo_two (a b : Int) (l : List Int) : firstOf (a :: b :: l) = if firstOf [a, b] = 0 then firstOf l else firstOf [a, b] := by
  by_cases ha : a = 0
  · subst ha
    rw [fo_cons0, fo_cons0]
    by_cases hb : b = 0
    · subst hb; simp [firstOf]
    · rw [fo_consN hb, fo_consN hb, if_neg hb]
  · rw [fo_consN ha, fo_consN ha, if_neg ha]
/-- the error of the gain at an index. -/
def eltG (gs : List Int) (k : Nat) : Int := firstOf [rangeErr (gs.getD k 0) 0 16, if k = 0 ∧ gs.getD 0 0 ≠ 0 ∨ 0 < k ∧ gs.getD k 0 ≤ gs.getD (k - 1) 0 then 11 else 0]
theorem eltG_pos {gs : List Int} {k : Nat} (h : 0 < k) : eltG gs k = ascAt gs 0 16 k := by
  unfold eltG ascAt
  have h0 : ¬ k = 0 := by omega
  simp [h, h0]
theorem eltG_zero (gs : List Int) : eltG gs 0 = firstOf [rangeErr (gs.getD 0 0) 0 16, if gs.getD 0 0 ≠ 0 then 11 else 0] := by simp [eltG]
theorem asc0 (gs : List Int) : ascAt gs 0 16 0 = rangeErr (gs.getD 0 0) 0 16 := by
  unfold ascAt
  simp only [Nat.lt_irrefl, false_and, if_false]
  by_cases h : rangeErr (gs.getD 0 0) 0 16 = 0
  · rw [h]; simp [firstOf]
  · rw [fo_consN h]
theorem g2_split (gs : List Int) : guardErr2 gs = if eltG gs 0 = 0 then ascErr gs 0 16 else eltG gs 0 := by
  rw [eltG_zero]
  unfold guardErr2
  rw [fo_two]
  have h1 : firstOf [ascErr gs 0 16] = ascErr gs 0 16 := by
    by_cases h : ascErr gs 0 16 = 0
    · rw [h]; simp [firstOf]
    · rw [fo_consN h]
  rw [h1]
theorem elt_asc {gs : List Int} {k : Nat} (h : ∀ j, j < k → eltG gs j = 0) : ∀ j, j < k → ascAt gs 0 16 j = 0 := by
  intro j hj
  rcases Nat.eq_zero_or_pos j with rfl | h0
  · rw [asc0]
    have := h 0 hj
    rw [eltG_zero, firstOf_eq_zero] at this
    exact this _ (by simp)
  · rw [← eltG_pos h0]; exact h j hj
theorem g2_at {gs : List Int} {k : Nat} (h : ∀ j, j < k → eltG gs j = 0) (hk : k < gs.length) (hn : eltG gs k ≠ 0) : guardErr2 gs = eltG gs k := by
  rw [g2_split]
  rcases Nat.eq_zero_or_pos k with rfl | h0
  · rw [if_neg hn]
  · rw [if_pos (h 0 h0)]
    have e := asc_get gs 0 16 hk
    unfold ascErr
    rw [firstOf_take (k := k) (fun j hj => by rw [asc_get gs 0 16 (by omega)]; exact elt_asc h j hj) (by simpa using hk) (by rw [e, ← eltG_pos h0]; exact hn), e, eltG_pos h0]
theorem g2_zero {gs : List Int} (h : ∀ j, j < gs.length → eltG gs j = 0) (h0 : 0 < gs.length) : guardErr2 gs = 0 := by
  rw [g2_split, if_pos (h 0 h0)]
  exact firstOf_zero (fun j hj => by
    have hj' : j < gs.length := by simpa using hj
    rw [asc_get gs 0 16 hj']; exact elt_asc h j hj')
/-- the error, from the first number that is not yet known to be right. -/
def G1 (gs : List Int) (l : List Int) : Int := if firstOf l = 0 then guardErr2 gs else firstOf l
theorem G1_cons0 (gs l : List Int) : G1 gs (0 :: l) = G1 gs l := by unfold G1; rw [fo_cons0]
theorem G1_consN (gs l : List Int) {a : Int} (h : a ≠ 0) : G1 gs (a :: l) = a := by unfold G1; rw [fo_consN h, if_neg h]
theorem G1_two0 (gs l : List Int) {a b : Int} (h : firstOf [a, b] = 0) : G1 gs (a :: b :: l) = G1 gs l := by unfold G1; rw [fo_two, if_pos h]
theorem G1_twoN (gs l : List Int) {a b : Int} (h : firstOf [a, b] ≠ 0) : G1 gs (a :: b :: l) = firstOf [a, b] := by unfold G1; rw [fo_two, if_neg h, if_neg h]
theorem G1_nil (gs : List Int) : G1 gs [] = guardErr2 gs := by simp [G1, firstOf]
theorem some0 {n : Nat} (h : n = 0) (m : Int) : someErr (n : Int) m = 12 := by simp [someErr, firstOf, h]
theorem some5 {n : Nat} (h : 8 < n) : someErr (n : Int) 8 = 5 := by
  have h1 : ¬ ((n : Int) = 0) := by omega
  have h2 : (8 : Int) < (n : Int) := by omega
  simp only [someErr, if_neg h1, if_pos h2]
  simp [firstOf]
theorem someOk {n : Nat} (h : 0 < n) (h2 : n ≤ 8) : someErr (n : Int) 8 = 0 := by
  have h1 : ¬ ((n : Int) = 0) := by omega
  have h3 : ¬ (8 : Int) < (n : Int) := by omega
  simp only [someErr, if_neg h1, if_neg h3]
  simp [firstOf]
theorem someErr_zero {n : Nat} (h : someErr (n : Int) 8 = 0) : 1 ≤ n ∧ n ≤ 8 := by
  rcases Nat.eq_zero_or_pos n with h0 | h0
  · rw [some0 h0] at h; simp at h
  · rcases Nat.lt_or_ge 8 n with h1 | h1
    · rw [some5 h1] at h; simp at h
    · exact ⟨h0, h1⟩
theorem guard_valid {lk ht rc : Int} {ts gs : List Int} (h : guardErr lk ht rc ts gs = 0) : Valid lk ht rc ts gs := by
  unfold guardErr at h
  split at h
  · rename_i h1
    have h1 := firstOf_eq_zero.1 h1
    have h2 := firstOf_eq_zero.1 h
    have k1 := rangeErr_zero.1 (h1 (rangeErr lk 1 8) (by simp))
    have k2 := rangeErr_zero.1 (h1 (rangeErr ht 0 536870912) (by simp))
    have k3 := someErr_zero (h1 (someErr ts.length 8) (by simp))
    have k4 := eachErr_zero.1 (h1 (eachErr ts (-64) 64) (by simp))
    have k5 := rangeErr_zero.1 (h1 (rangeErr rc 0 1048576) (by simp))
    have k6 := someErr_zero (h1 (someErr gs.length 8) (by simp))
    have k7 := h2 (if gs.getD 0 0 ≠ 0 then 11 else 0) (by simp)
    have k8 := firstOf_eq_zero.1 (h2 (ascErr gs 0 16) (by simp))
    refine ⟨k1, k2, k5, k3, k4, k6, fun k => ?_, ?_⟩
    · rcases Nat.lt_or_ge k gs.length with hk | hk
      · have h3 := k8 (ascAt gs 0 16 k) (List.mem_map.2 ⟨k, by simpa using hk, rfl⟩)
        have h4 := firstOf_eq_zero.1 h3
        exact rangeErr_zero.1 (h4 _ (List.mem_cons_self ..))
      · rw [List.getD_eq_getElem?_getD, List.getElem?_eq_none hk]; simp
    · by_cases hg : gs.getD 0 0 = 0
      · exact hg
      · rw [if_pos hg] at k7; simp at k7
  · rename_i h1
    exact absurd h h1
end Go.Proofs.YtdeapbihbhoefaaGreatDoor
