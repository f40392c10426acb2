/- Part 5 of the texts of the claim: X3, X4, S2, S3, S4, S5. -/
import Derived.Test.YtamldoidalnloaaMc4
import Derived.Test.YtamldoidalnloaaMc1
import Derived.Test.YtamldoidalnloaaMc2
import Derived.Test.YtamldoidalnloaaMc3
import Derived.Shelf.Abstract
import Derived.OwnWalkIn
import Derived.TacticsInMore
import Derived.LoopNIn
import Derived.LoopIn

/- (search).visit where nothing is left to visit: the louder of what is best so far and a list. -/
namespace Go.Proofs.Ytamldoidalnloaa
open Go.RowKit
open Calm (bcell Blk)

/-- all that lay is as it was, but for one block. -/
structure But (sb : Nat) (w w' : World) : Prop where
  os : w'.os = w.os
  tape : w'.tape = w.tape
  output : w'.output = w.output
  size : w.heap.size ≤ w'.heap.size
  block : ∀ k, Rest sb w.heap.size k → w'.heap[k]? = w.heap[k]?
theorem But.refl (sb : Nat) (w : World) : But sb w w := ⟨rfl, rfl, rfl, Nat.le_refl _, fun _ _ => rfl⟩
theorem But.trans {sb : Nat} {a b c : World} (h : But sb a b) (k : But sb b c) : But sb a c :=
  ⟨k.os.trans h.os, k.tape.trans h.tape, k.output.trans h.output, Nat.le_trans h.size k.size, fun i hi => (k.block i ⟨Nat.lt_of_lt_of_le hi.1 h.size, hi.2⟩).trans (h.block i hi)⟩
theorem But.of {sb : Nat} {w w' : World} (h : Below w.heap.size w w') : But sb w w' := ⟨h.os, h.tape, h.output, h.size, fun k hk => h.block k hk.1⟩
theorem But.drawn {sb : Nat} (w : World) : But sb w { w with drawn := w.drawn + 1 } := ⟨rfl, rfl, rfl, Nat.le_refl _, fun _ _ => rfl⟩
theorem But.put {sb : Nat} (w : World) (i : Nat) (v : Value) : But sb w (w.setCell ⟨sb, i, none⟩ v) := ⟨rfl, rfl, rfl, by simp [World.setCell], fun k hk => Below.heap_setCell _ _ _ _ hk.2⟩
theorem But.below {sb B : Nat} {w w' : World} (h : But sb w w') (h1 : B ≤ sb) (h2 : B ≤ w.heap.size) : Below B w w' := ⟨h.os, h.tape, h.output, h.size, fun k hk => h.block k ⟨by omega, by omega⟩⟩
theorem Cells.but {w w' : World} {A : Option Addr} {zs : List Int} {sb : Nat} (h : Cells w A zs) (ho : Off sb A) (hW : But sb w w') : Cells w' A zs := h.rest ho hW.block
theorem blk_but {w w' : World} {g sb : Nat} {cs : Array Value} (h : Blk w g cs) (hg : g ≠ sb) (hW : But sb w w') : Blk w' g cs := h.of_block (hW.block g ⟨h.lt, hg⟩)

theorem own_room {w : World} {base size n c : Nat} {e : TypeId} {A : Option Addr} {xs : List Value} (h : w.ownsRow base e size (.slice A n c) n xs) : n ≤ c ∧ c ≤ maxLen := by
  rcases h.2 with ⟨h1, h2⟩ | ⟨g, cap, cur, h1, _, _, h2, h3, _⟩
  · cases h1
    exact ⟨Nat.le_refl _, Nat.zero_le _⟩
  · cases h1
    exact ⟨h2, h3⟩
/-- worlds that turn in one block alone, in its cells 6 and 7. -/
structure SetR (sb n : Nat) (l : List Int) (E : Int) (W W' : World) : Prop where
  but : But sb W W'
  rest : ∀ i, i ≠ 6 → i ≠ 7 → W'.cell? ⟨sb, i, none⟩ = W.cell? ⟨sb, i, none⟩
  fr : ∀ i, W'.frozen? ⟨sb, i, none⟩ = W.frozen? ⟨sb, i, none⟩
  c6 : W'.cell? ⟨sb, 6, none⟩ = W.cell? ⟨sb, 6, none⟩ ∨ ∃ B d, W'.cell? ⟨sb, 6, none⟩ = some (.slice B n d) ∧ Cells W' B l ∧ Off sb B ∧ n ≤ d ∧ d ≤ maxLen
  c7 : W'.cell? ⟨sb, 7, none⟩ = W.cell? ⟨sb, 7, none⟩ ∨ W'.cell? ⟨sb, 7, none⟩ = some (.int .i64 E)
namespace RelG
open Rel (Know Ctx deps facts ons GOK3)
variable {S : World → World → Prop} {P : Program} {DS : List Tmp} {w0 : World} {a0 : Act} {T : Ctx → Prop} {Γ : Ctx} {o : Oper} {rest : List Oper}
end RelG

end Go.Proofs.Ytamldoidalnloaa

/- (search).visit: the best list of all that further outputs make. -/
namespace Go.Proofs.Ytamldoidalnloaa
open Go.RowKit
open Calm (bcell Blk)

theorem ownsRow_base {w : World} {base base' e size n : Nat} {v : Value} {xs : List Value} (h : w.ownsRow base e size v n xs) (hb : base' ≤ base) : w.ownsRow base' e size v n xs := by
  refine ⟨h.1, ?_⟩
  rcases h.2 with h | ⟨g, cap, cur, h1, h2, h3⟩
  · exact .inl h
  · exact .inr ⟨g, cap, cur, h1, Nat.le_trans hb h2, h3⟩
theorem cells_grown {X Y : World} {A : Option Addr} {zs : List Int} {row : Option Nat} (h : Cells X A zs) (hg : X.grownBy Y row) (hrow : ∀ r, row = some r → ∃ o : Obj, X.heap[r]? = some o ∧ o.isCells = false) : Cells Y A zs := by
  intro h0
  obtain ⟨b, off, hA, hl, hc⟩ := h h0
  exact ⟨b, off, hA, Nat.lt_of_lt_of_le hl hg.size, fun k hk => cell_kept (hc k hk) hg hrow⟩
theorem but_own {β : Type} (w6 : World) (sb : Nat) : OwnFrom w6.heap.size (fun (_ : β) W => But sb w6 W) := by
  rintro s X Y row h hg hrow
  exact ⟨hg.os.trans h.os, hg.tape.trans h.tape, hg.output.trans h.output, Nat.le_trans h.size hg.size, fun k hk => (hg.block k (Nat.lt_of_lt_of_le hk.1 h.size) (fun e => by have h1 := (hrow k e.symm).1; have h2 := hk.1; omega)).trans (h.block k hk)⟩

end Go.Proofs.Ytamldoidalnloaa

/- Contracts of numbers, CheckSection and CheckState. -/
namespace Go.Proofs.Ytamldoidalnloaa
open Go.RowKit
open Calm (bcell Blk)

theorem numbers_any (b0 b1 b2 a1 a2 sh : Int) (w : World) : Calls Try.prog 98 #[.agg #[(.int .i64 b0), (.int .i64 b1), (.int .i64 b2), (.int .i64 a1), (.int .i64 a2), (.int .i64 sh)]] w fun r w' => r = .returned (.agg #[(.int .i64 b0), (.int .i64 b1), (.int .i64 b2), (.int .i64 a1), (.int .i64 a2), (.int .i64 sh)]) ∧ Below w.heap.size w w' := by
  go_enter Try.func98, Try.ntmps98
  go_wp2
  exact bodyPost_ret (v := .agg #[(.int .i64 b0), (.int .i64 b1), (.int .i64 b2), (.int .i64 a1), (.int .i64 a2), (.int .i64 sh)]) (by simp [results, Try.results98, go_sem]) rfl ⟨rfl, by (repeat (first | (with_reducible exact Below.refl _ _) | ((with_reducible refine Below.setCell ?_ ?_ _); rotate_left 1; focus (first | (simp; done) | (simp; omega) | (simp at *; omega))) | ((with_reducible refine Below.alloc ?_ ?_ _); rotate_left 1; focus (first | (simp; done) | (simp; omega) | (simp at *; omega))) | (with_reducible refine Below.drew ?_) | ((with_reducible refine Calm.step (by assumption) ?_ ?_); rotate_left 1; focus (first | (simp; done) | (simp; omega) | (simp at *; omega)))))⟩
/-- the error of a section. -/
def secErr (b0 b1 b2 a1 a2 sh : Int) : Int := firstOf [eachErr [b0, b1, b2, a1, a2] (-32767) 32767, rangeErr sh 0 15]
set_option maxHeartbeats 2000000 in
set_option maxRecDepth 100000 in
theorem checkSection_any (b0 b1 b2 a1 a2 sh : Int) (w : World) : Calls Try.prog 83 #[.agg #[(.int .i64 b0), (.int .i64 b1), (.int .i64 b2), (.int .i64 a1), (.int .i64 a2), (.int .i64 sh)]] w fun r w' => r = .returned (.int .i64 (secErr b0 b1 b2 a1 a2 sh)) ∧ Below w.heap.size w w' := by
  have HM : Hid (∀ W A c, Cells W A [b0, b1, b2, a1, a2] → Calls Try.prog 84 #[.slice A 5 c, .func (.func 99) #[] #[]] W fun r w' => (∃ B d, r = .returned (.slice B 5 d) ∧ Cells w' B ([b0, b1, b2, a1, a2].map fun n => rangeErr n (-32767) 32767)) ∧ Below W.heap.size W w') := Lib.hid (fun W A c q => sMapTap_any A [b0, b1, b2, a1, a2] c W q (by simp))
  have HF : Hid (∀ W B d, Cells W B ([b0, b1, b2, a1, a2].map fun n => rangeErr n (-32767) 32767) → Calls Try.prog 47 #[.slice B 5 d] W fun r w' => r = .returned (.int .i64 (eachErr [b0, b1, b2, a1, a2] (-32767) 32767)) ∧ W = w') := Lib.hid (fun W B d q => sFirst_any _ B d W (by simp) q)
  have HF2 : Hid (∀ (W : World) (a b : Int), Calls Try.prog 47 #[.slice (some ⟨W.heap.size, 0, none⟩) 2 2] (W.alloc (.cells #[(.int .i64 a), (.int .i64 b)] 24)) fun r w' => r = .returned (.int .i64 (firstOf [a, b])) ∧ (W.alloc (.cells #[(.int .i64 a), (.int .i64 b)] 24)) = w') := Lib.hid (fun W a b => sFirst_cells [a, b] W (by simp))
  have HS : Hid (secErr b0 b1 b2 a1 a2 sh = firstOf [eachErr [b0, b1, b2, a1, a2] (-32767) 32767, rangeErr sh 0 15]) := Lib.hid rfl
  obtain ⟨R, hR⟩ : ∃ R, R = secErr b0 b1 b2 a1 a2 sh := ⟨_, rfl⟩
  rw [← hR] at HS ⊢
  obtain ⟨E, hE⟩ : ∃ E, E = eachErr [b0, b1, b2, a1, a2] (-32767) 32767 := ⟨_, rfl⟩
  rw [← hE] at HS HF
  clear hR hE
  go_enter Try.func83, Try.ntmps83
  go_wp2_with (go_at_call 98; refine (numbers_any _ _ _ _ _ _ _).mono ?_; rintro r w1 ⟨rfl, hb1⟩; have K0 : Blk w1 w.heap.size #[(.int .i64 b0), (.int .i64 b1), (.int .i64 b2), (.int .i64 a1), (.int .i64 a2), (.int .i64 sh)] := Blk.below (by (repeat (first | ((with_reducible refine Blk.at_ ?_); focus (first | rfl | (simp; done) | (simp; omega))) | (with_reducible refine Blk.alloc ?_ _) | (with_reducible refine Blk.below ?_ (by with_reducible assumption)) | (with_reducible refine Blk.drew ?_)))) hb1; have HK0 := Lib.hid K0; have HB1 := Lib.hid (show Below w.heap.size w w1 from Below.trans (by (repeat (first | (with_reducible exact Below.refl _ _) | ((with_reducible refine Below.setCell ?_ ?_ _); rotate_left 1; focus (first | (simp; done) | (simp; omega) | (simp at *; omega))) | ((with_reducible refine Below.alloc ?_ ?_ _); rotate_left 1; focus (first | (simp; done) | (simp; omega) | (simp at *; omega))) | (with_reducible refine Below.drew ?_) | ((with_reducible refine Calm.step (by assumption) ?_ ?_); rotate_left 1; focus (first | (simp; done) | (simp; omega) | (simp at *; omega)))))) (hb1.mono (by simp))); have l0 := K0.lt; clear K0 hb1)
  refine name_world ?_
  intro w2 e2
  have K1 : Blk w2 w1.heap.size #[(.int .i64 b0), (.int .i64 b1), (.int .i64 b2), (.int .i64 a1), (.int .i64 a2), (.int .i64 sh)] := by rw [e2]; exact Blk.new _ _ _
  have HK1 := Lib.hid K1
  have K0 : Blk w2 w.heap.size #[(.int .i64 b0), (.int .i64 b1), (.int .i64 b2), (.int .i64 a1), (.int .i64 a2), (.int .i64 sh)] := by rw [e2]; exact HK0.out.alloc _
  have HB2 : Hid (Below w.heap.size w w2) := Lib.hid (by rw [e2]; exact HB1.out.alloc HB1.out.size _)
  have HC2 : Hid (Cells w2 (some ⟨w1.heap.size, 0, none⟩) [b0, b1, b2, a1, a2]) := Lib.hid (fun _ => ⟨w1.heap.size, 0, rfl, K1.lt, fun k hk => by
    have : k = 0 ∨ k = 1 ∨ k = 2 ∨ k = 3 ∨ k = 4 := by simp at hk; omega
    rw [Nat.zero_add, K1.c k]
    rcases this with rfl | rfl | rfl | rfl | rfl <;> rfl⟩)
  obtain ⟨c0, c1, c2, c3, c4, c5, cl, cf⟩ := K0.o6
  have hs2 := HB2.out.size
  clear e2 K1 K0 HK0 HB1
  refine Rel.region3 5 (by kernel_rfl) (by kernel_rfl) (by kernel_rfl) ?_
  simp only [List.take_succ_cons, List.take_zero, List.drop_succ_cons, List.drop_zero, List.filterMap_cons, List.filterMap_nil]
  iterate 1 (apply Rel.op3; (focus (first | exact Rel.gno rfl | exact Rel.gyes _ true _ rfl rfl rfl | exact Rel.gyes _ false _ rfl rfl rfl)); (focus (intro a W hb hd hbase; obtain ⟨hc, hf⟩ := bcell hb; clear hb hf; simp [Rel.deps, Rel.dep1, Rel.ons, Region.binds, Act.eval] at hd; simp only [Act.eval, List.mem_cons, List.not_mem_nil, not_or, and_imp, or_false, Array.getD_eq_getD_getElem?] at hbase; go_simp; (try go_bits); (try rfl); done)); (try simp only [List.nil_append, List.cons_append]))
  refine Rel.callR3 (fun u W => ∃ B d, u = .slice B 5 d ∧ Cells W B ([b0, b1, b2, a1, a2].map fun n => rangeErr n (-32767) 32767)) (fun u W W' ⟨B, c, h1, h2⟩ hb => ⟨B, c, h1, h2.below hb⟩) (Rel.gno rfl) ?_ ?_
  · intro a W hb hd hbase
    refine ⟨84, #[.slice (some ⟨w1.heap.size, 0, none⟩) 5 6, .func (.func 99) #[] #[]], ?_, (HM.out W _ _ (HC2.out.below hb)).mono (fun e W' ⟨⟨B, c, h1, h3⟩, h4⟩ => ⟨_, h1, ⟨B, c, rfl, h3⟩, h4⟩)⟩
    clear hb
    simp [Rel.deps, Rel.dep1, Rel.ons, Region.binds, Act.eval] at hd
    go_simp
    (first | done | rfl | (refine ⟨?_, ?_⟩ <;> rfl))
  (try simp only [List.nil_append, List.cons_append])
  refine Rel.callR3 (fun u W => u = (.int .i64 E)) (fun _ _ _ h _ => h) (Rel.gno rfl) ?_ ?_
  · intro a W hb hd hbase
    simp [Rel.deps, Rel.dep1, Rel.ons, Region.binds, Act.eval] at hd
    obtain ⟨B, ⟨d, h1⟩, h2⟩ := hd
    refine ⟨47, #[.slice B 5 d], ?_, (HF.out W B d h2).mono (fun e W' ⟨he, hw⟩ => ⟨_, he, rfl, hw ▸ Below.refl _ _⟩)⟩
    clear hb h2
    go_simp
    (first | done | rfl | (refine ⟨?_, ?_⟩ <;> rfl))
  (try simp only [List.nil_append, List.cons_append])
  iterate 2 (apply Rel.op3; (focus (first | exact Rel.gno rfl | exact Rel.gyes _ true _ rfl rfl rfl | exact Rel.gyes _ false _ rfl rfl rfl)); (focus (intro a W hb hd hbase; obtain ⟨hc, hf⟩ := bcell hb; clear hb hf; simp [Rel.deps, Rel.dep1, Rel.ons, Region.binds, Act.eval] at hd; simp only [Act.eval, List.mem_cons, List.not_mem_nil, not_or, and_imp, or_false, Array.getD_eq_getD_getElem?] at hbase; go_simp; (try go_bits); (try rfl); done)); (try simp only [List.nil_append, List.cons_append]))
  refine Rel.done3 ?_
  intro x w3 hb3 hx
  simp only [Rel.facts, Nat.zero_add, Nat.reduceAdd] at hx
  obtain ⟨e0, ⟨B, d, e1, _⟩, e2, e3, e4, _⟩ := hx
  simp only [Rel.fill, Nat.zero_add, Nat.reduceAdd, e0, e1, e2, e3, e4]
  simp only [Act.put, List.setIfInBounds_toArray, List.set_cons_zero, List.set_cons_succ]
  have HB3 := Lib.hid (HB2.out.trans (hb3.mono hs2))
  clear e0 e1 e2 e3 e4 hb3 HM HF
  go_wp2_with (first
    | (go_at_call 100; refine (sWithin_any _ _ _ _).mono ?_; rintro r w' ⟨rfl, rfl⟩)
    | (go_at_call 47; refine (HF2.out _ _ _).mono ?_; rintro r w' ⟨rfl, rfl⟩))
  go_ret
  exact ⟨ret_i HS.out.symm, HB3.out.alloc HB3.out.size _⟩
/-- the error of a state of sections. -/
def sstErr (x1 x2 y1 y2 : Int) : Int := eachErr [x1, x2, y1, y2] (-32767) 32767
theorem sState_any (x1 x2 y1 y2 : Int) (w : World) : Calls Try.prog 92 #[.agg #[(.int .i64 x1), (.int .i64 x2), (.int .i64 y1), (.int .i64 y2)]] w fun r w' => r = .returned (.int .i64 (sstErr x1 x2 y1 y2)) ∧ Below w.heap.size w w' := by
  have HM : Hid (∀ W A c, Cells W A [x1, x2, y1, y2] → Calls Try.prog 84 #[.slice A 4 c, .func (.func 85) #[] #[]] W fun r w' => (∃ B d, r = .returned (.slice B 4 d) ∧ Cells w' B ([x1, x2, y1, y2].map fun n => rangeErr n (-32767) 32767)) ∧ Below W.heap.size W w') := Lib.hid (fun W A c q => sMapVal_any A [x1, x2, y1, y2] c W q (by simp))
  have HF : Hid (∀ W B d, Cells W B ([x1, x2, y1, y2].map fun n => rangeErr n (-32767) 32767) → Calls Try.prog 47 #[.slice B 4 d] W fun r w' => r = .returned (.int .i64 (sstErr x1 x2 y1 y2)) ∧ W = w') := Lib.hid (fun W B d q => sFirst_any _ B d W (by simp) q)
  have HK : Hid (∀ W, Blk W (w.heap.size + 1) #[(.int .i64 x1), (.int .i64 x2), (.int .i64 y1), (.int .i64 y2)] → Cells W (some ⟨w.heap.size + 1, 0, none⟩) [x1, x2, y1, y2]) := Lib.hid (fun W K _ => ⟨w.heap.size + 1, 0, rfl, K.lt, fun k hk => by
    have : k = 0 ∨ k = 1 ∨ k = 2 ∨ k = 3 := by simp at hk; omega
    rw [Nat.zero_add, K.c k]
    rcases this with rfl | rfl | rfl | rfl <;> rfl⟩)
  go_enter Try.func92, Try.ntmps92
  go_wp2_with (go_at_call 84; refine (HM.out _ _ _ (HK.out _ (by (repeat (first | ((with_reducible refine Blk.at_ ?_); focus (first | rfl | (simp; done) | (simp; omega))) | (with_reducible refine Blk.alloc ?_ _) | (with_reducible refine Blk.below ?_ (by with_reducible assumption)) | (with_reducible refine Blk.drew ?_)))))).mono ?_; rintro r w1 ⟨⟨B, d, rfl, hc1⟩, hb1⟩; have HC1 := Lib.hid hc1; clear hc1; refine Hid.out ?_)
  unfold Hid
  go_wp2_with (go_at_call 47; refine (HF.out _ _ _ HC1.out).mono ?_; rintro r w2 ⟨rfl, rfl⟩)
  go_ret
  exact ⟨rfl, Below.trans (by (repeat (first | (with_reducible exact Below.refl _ _) | ((with_reducible refine Below.setCell ?_ ?_ _); rotate_left 1; focus (first | (simp; done) | (simp; omega) | (simp at *; omega))) | ((with_reducible refine Below.alloc ?_ ?_ _); rotate_left 1; focus (first | (simp; done) | (simp; omega) | (simp at *; omega))) | (with_reducible refine Below.drew ?_) | ((with_reducible refine Calm.step (by assumption) ?_ ?_); rotate_left 1; focus (first | (simp; done) | (simp; omega) | (simp at *; omega)))))) (hb1.mono (by simp; omega))⟩
end Go.Proofs.Ytamldoidalnloaa

/- Contracts of mapped over sections and of checkSections. -/
namespace Go.Proofs.Ytamldoidalnloaa
open Go.RowKit
open Calm (bcell Blk)

structure Sec where
  b0 : Int
  b1 : Int
  b2 : Int
  a1 : Int
  a2 : Int
  sh : Int
end Go.Proofs.Ytamldoidalnloaa

/- Contracts of raw, limited and step of sections. -/
namespace Go.Proofs.Ytamldoidalnloaa
open Go.RowKit
open Calm (bcell Blk)

def bd15 (x : Int) : Prop := -32767 ≤ x ∧ x ≤ 32767
/-- the raw output, and the output. -/
def rawF (b0 b1 b2 a1 a2 sh x1 x2 y1 y2 i : Int) : Int := (b0 * i + b1 * x1 + b2 * x2 - a1 * y1 - a2 * y2) / 2 ^ sh.toNat
def mn (x y : Int) : Int := if y < x then y else x
def limF (n : Int) : Int := mx (-32767) (mn 32767 n)
theorem limF_bd (n : Int) : bd15 (limF n) := by unfold limF mx mn bd15; split <;> split <;> omega
theorem raw_any (b0 b1 b2 a1 a2 sh x1 x2 y1 y2 i : Int) (w : World) (h0 : bd15 b0) (h1 : bd15 b1) (h2 : bd15 b2) (h3 : bd15 a1) (h4 : bd15 a2) (h5 : 0 ≤ sh ∧ sh ≤ 15) (k1 : bd15 x1) (k2 : bd15 x2) (k3 : bd15 y1) (k4 : bd15 y2) (k5 : bd15 i) :
    Calls Try.prog 114 #[.agg #[(.int .i64 b0), (.int .i64 b1), (.int .i64 b2), (.int .i64 a1), (.int .i64 a2), (.int .i64 sh)], .agg #[(.int .i64 x1), (.int .i64 x2), (.int .i64 y1), (.int .i64 y2)], (.int .i64 i)] w fun r w' => r = .returned (.int .i64 (rawF b0 b1 b2 a1 a2 sh x1 x2 y1 y2 i)) ∧ Below w.heap.size w w' := by
  have m0 := mul_bd h0 k5
  have m1 := mul_bd h1 k1
  have m2 := mul_bd h2 k2
  have m3 := mul_bd h3 k3
  have m4 := mul_bd h4 k4
  obtain ⟨p1, p2⟩ := m0
  obtain ⟨p3, p4⟩ := m1
  obtain ⟨p5, p6⟩ := m2
  obtain ⟨p7, p8⟩ := m3
  obtain ⟨p9, p10⟩ := m4
  obtain ⟨q1, q2⟩ := h5
  clear h0 h1 h2 h3 h4 k1 k2 k3 k4 k5
  go_enter Try.func114, Try.ntmps114
  go_wp2
  go_ret
  exact ⟨rfl, by (repeat (first | (with_reducible exact Below.refl _ _) | ((with_reducible refine Below.setCell ?_ ?_ _); rotate_left 1; focus (first | (simp; done) | (simp; omega) | (simp at *; omega))) | ((with_reducible refine Below.alloc ?_ ?_ _); rotate_left 1; focus (first | (simp; done) | (simp; omega) | (simp at *; omega))) | (with_reducible refine Below.drew ?_) | ((with_reducible refine Calm.step (by assumption) ?_ ?_); rotate_left 1; focus (first | (simp; done) | (simp; omega) | (simp at *; omega)))))⟩
theorem limited_any (n : Int) (w : World) : Calls Try.prog 113 #[(.int .i64 n)] w fun r w' => r = .returned (.int .i64 (limF n)) ∧ w = w' := by
  have hmax := max2_any
  have hmin : ∀ W : World, (Builtin.min_ #[3, 3] 3 #[(.int .i64 32767), (.int .i64 n)]).run Try.prog W = .ok (.int .i64 (mn 32767 n)) W := fun W => by simp [Builtin.min_, Builtin.min2, mn]
  go_enter Try.func113, Try.ntmps113
  go_wp2
  go_ret
  exact ⟨rfl, rfl⟩
def outS (b0 b1 b2 a1 a2 sh x1 x2 y1 y2 i : Int) : Int := limF (rawF b0 b1 b2 a1 a2 sh x1 x2 y1 y2 i)
set_option maxHeartbeats 1000000 in
theorem sStep_any (b0 b1 b2 a1 a2 sh x1 x2 y1 y2 i : Int) (w : World) (h0 : bd15 b0) (h1 : bd15 b1) (h2 : bd15 b2) (h3 : bd15 a1) (h4 : bd15 a2) (h5 : 0 ≤ sh ∧ sh ≤ 15) (k1 : bd15 x1) (k2 : bd15 x2) (k3 : bd15 y1) (k4 : bd15 y2) (k5 : bd15 i) :
    Calls Try.prog 102 #[.agg #[(.int .i64 b0), (.int .i64 b1), (.int .i64 b2), (.int .i64 a1), (.int .i64 a2), (.int .i64 sh)], .agg #[(.int .i64 x1), (.int .i64 x2), (.int .i64 y1), (.int .i64 y2)], (.int .i64 i)] w fun r w' => r = .returned (.tuple #[(.int .i64 (outS b0 b1 b2 a1 a2 sh x1 x2 y1 y2 i)), .agg #[(.int .i64 i), (.int .i64 x1), (.int .i64 (outS b0 b1 b2 a1 a2 sh x1 x2 y1 y2 i)), (.int .i64 y1)]]) ∧ Below w.heap.size w w' := by
  have HR : Hid (∀ W, Calls Try.prog 114 #[.agg #[(.int .i64 b0), (.int .i64 b1), (.int .i64 b2), (.int .i64 a1), (.int .i64 a2), (.int .i64 sh)], .agg #[(.int .i64 x1), (.int .i64 x2), (.int .i64 y1), (.int .i64 y2)], (.int .i64 i)] W fun r w' => r = .returned (.int .i64 (rawF b0 b1 b2 a1 a2 sh x1 x2 y1 y2 i)) ∧ Below W.heap.size W w') := Lib.hid (fun W => raw_any b0 b1 b2 a1 a2 sh x1 x2 y1 y2 i W h0 h1 h2 h3 h4 h5 k1 k2 k3 k4 k5)
  have HL : Hid (∀ W, Calls Try.prog 113 #[(.int .i64 (rawF b0 b1 b2 a1 a2 sh x1 x2 y1 y2 i))] W fun r w' => r = .returned (.int .i64 (outS b0 b1 b2 a1 a2 sh x1 x2 y1 y2 i)) ∧ W = w') := Lib.hid (fun W => limited_any _ W)
  obtain ⟨R, hR⟩ : ∃ R, R = rawF b0 b1 b2 a1 a2 sh x1 x2 y1 y2 i := ⟨_, rfl⟩
  obtain ⟨O, hO⟩ : ∃ O, O = outS b0 b1 b2 a1 a2 sh x1 x2 y1 y2 i := ⟨_, rfl⟩
  rw [← hR] at HR HL
  rw [← hO] at HL ⊢
  clear h0 h1 h2 h3 h4 h5 k1 k2 k3 k4 k5 hR hO
  go_enter Try.func102, Try.ntmps102
  go_wp2_with (first
    | (go_at_call 114; refine (HR.out _).mono ?_; rintro r w1 ⟨rfl, hb1⟩; have HB1 := Lib.hid (show Below w.heap.size w w1 from Below.trans (by (repeat (first | (with_reducible exact Below.refl _ _) | ((with_reducible refine Below.setCell ?_ ?_ _); rotate_left 1; focus (first | (simp; done) | (simp; omega) | (simp at *; omega))) | ((with_reducible refine Below.alloc ?_ ?_ _); rotate_left 1; focus (first | (simp; done) | (simp; omega) | (simp at *; omega))) | (with_reducible refine Below.drew ?_) | ((with_reducible refine Calm.step (by assumption) ?_ ?_); rotate_left 1; focus (first | (simp; done) | (simp; omega) | (simp at *; omega)))))) (hb1.mono (by simp; omega))); have K1 := Lib.hid (show Blk w1 (w.heap.size + 1) #[(.int .i64 x1), (.int .i64 x2), (.int .i64 y1), (.int .i64 y2)] from Blk.below (by (repeat (first | ((with_reducible refine Blk.at_ ?_); focus (first | rfl | (simp; done) | (simp; omega))) | (with_reducible refine Blk.alloc ?_ _) | (with_reducible refine Blk.below ?_ (by with_reducible assumption)) | (with_reducible refine Blk.drew ?_)))) hb1); have K2 := Lib.hid (show Blk w1 (w.heap.size + 1 + 1) #[(.int .i64 0), (.int .i64 0), (.int .i64 0), (.int .i64 0)] from Blk.below (by (repeat (first | ((with_reducible refine Blk.at_ ?_); focus (first | rfl | (simp; done) | (simp; omega))) | (with_reducible refine Blk.alloc ?_ _) | (with_reducible refine Blk.below ?_ (by with_reducible assumption)) | (with_reducible refine Blk.drew ?_)))) hb1); clear hb1)
    | (go_at_call 113; refine (HL.out _).mono ?_; rintro r w2 ⟨rfl, rfl⟩))
  obtain ⟨c0, c1, c2, c3, cl, cf⟩ := K1.out.o4
  have hK2 := K2.out.lt
  refine Calm.tail_below 9 (by kernel_rfl) (by kernel_rfl) ?_
  simp only [List.take_succ_cons, List.take_zero, List.drop_succ_cons, List.drop_zero]
  repeat (first | (apply Calm.op_move; (focus rfl); (focus (first | exact .inl rfl | exact .inr rfl)); (focus ((try simp only [Act.eval, Array.getD_eq_getD_getElem?, List.getElem?_toArray, List.getElem?_cons_succ, List.getElem?_cons_zero, Option.getD_some]); rfl)); (try simp only [Act.put, List.setIfInBounds_toArray, List.set_cons_zero, List.set_cons_succ])) | (apply Calm.op_not; (focus rfl); (try simp only [Act.put, List.setIfInBounds_toArray, List.set_cons_zero, List.set_cons_succ])) | (apply Calm.op; (focus rfl); (focus (intro W hb; obtain ⟨hc, hf⟩ := bcell hb; clear hb hf; go_simp; (try go_bits); (try rfl); done)); (try simp only [Act.put, List.setIfInBounds_toArray, List.set_cons_zero, List.set_cons_succ])))
  refine wpQuiet_nil ?_
  intro w5 hb5
  obtain ⟨hb5c, hb5f⟩ := bcell hb5
  have hb5z := hb5.size
  (try simp at hb5z)
  (try have hb5z0 : w.heap.size < w5.heap.size := by omega)
  (try have hb5z1 : w.heap.size + 1 < w5.heap.size := by omega)
  (try have hb5z2 : w.heap.size + 1 + 1 < w5.heap.size := by omega)
  (try have hb5z3 : w.heap.size + 1 + 1 + 1 < w5.heap.size := by omega)
  (try have hb5z4 : w.heap.size + 1 + 1 + 1 + 1 < w5.heap.size := by omega)
  (try have hb5z5 : w.heap.size + 1 + 1 + 1 + 1 + 1 < w5.heap.size := by omega)
  have HB5 := Lib.hid (HB1.out.trans (hb5.mono HB1.out.size))
  have K25 := K2.out.below hb5
  obtain ⟨d0, d1, d2, d3, dl, df⟩ := K25.o4
  clear hb5 hb5c hb5f c0 c1 c2 c3 cl cf
  go_wp2
  exact bodyPost_ret (v := .tuple #[(.int .i64 O), .agg #[(.int .i64 i), (.int .i64 x1), (.int .i64 O), (.int .i64 y1)]]) (by simp [results, Try.results102, go_sem, *]) rfl ⟨rfl, (((HB5.out.setCell (by simp; omega) _).setCell (by simp; omega) _).setCell (by simp; omega) _).setCell (by simp; omega) _⟩
end Go.Proofs.Ytamldoidalnloaa

/- Contracts of (Section).outputs and of the iterator that it hands out. -/
namespace Go.Proofs.Ytamldoidalnloaa
open Go.RowKit
open Calm (bcell Blk)

abbrev XS := Int × Int × Int × Int
/-- the states of a section's run, and its outputs. -/
def ssAt (b0 b1 b2 a1 a2 sh : Int) (st : XS) (xs : List Int) : Nat → XS
  | 0 => st
  | k + 1 => let s := ssAt b0 b1 b2 a1 a2 sh st xs k; (xs.getD k 0, s.1, outS b0 b1 b2 a1 a2 sh s.1 s.2.1 s.2.2.1 s.2.2.2 (xs.getD k 0), s.2.2.1)
def soAt (b0 b1 b2 a1 a2 sh : Int) (st : XS) (xs : List Int) (k : Nat) : Int := let s := ssAt b0 b1 b2 a1 a2 sh st xs k; outS b0 b1 b2 a1 a2 sh s.1 s.2.1 s.2.2.1 s.2.2.2 (xs.getD k 0)
def allS (b0 b1 b2 a1 a2 sh : Int) (st : XS) (xs : List Int) (n : Nat) : List (Int × XS) := (List.range n).map fun k => (soAt b0 b1 b2 a1 a2 sh st xs k, ssAt b0 b1 b2 a1 a2 sh st xs (k + 1))
theorem allS_succ (b0 b1 b2 a1 a2 sh : Int) (st : XS) (xs : List Int) (k : Nat) : allS b0 b1 b2 a1 a2 sh st xs (k + 1) = allS b0 b1 b2 a1 a2 sh st xs k ++ [(soAt b0 b1 b2 a1 a2 sh st xs k, ssAt b0 b1 b2 a1 a2 sh st xs (k + 1))] := by simp [allS, List.range_succ]
theorem allS_post (b0 b1 b2 a1 a2 sh : Int) (st : XS) (xs : List Int) {k n : Nat} (h : k < n) : ∃ post, allS b0 b1 b2 a1 a2 sh st xs n = allS b0 b1 b2 a1 a2 sh st xs k ++ (soAt b0 b1 b2 a1 a2 sh st xs k, ssAt b0 b1 b2 a1 a2 sh st xs (k + 1)) :: post := by
  obtain ⟨m, rfl⟩ : ∃ m, n = k + 1 + m := ⟨n - (k + 1), by omega⟩
  refine ⟨(List.range m).map fun j => (soAt b0 b1 b2 a1 a2 sh st xs (k + 1 + j), ssAt b0 b1 b2 a1 a2 sh st xs (k + 1 + j + 1)), ?_⟩
  have : allS b0 b1 b2 a1 a2 sh st xs (k + 1 + m) = allS b0 b1 b2 a1 a2 sh st xs (k + 1) ++ (List.range m).map fun j => (soAt b0 b1 b2 a1 a2 sh st xs (k + 1 + j), ssAt b0 b1 b2 a1 a2 sh st xs (k + 1 + j + 1)) := by
    simp [allS, List.range_add]
  rw [this, allS_succ]
  simp
def okX (s : XS) : Prop := bd15 s.1 ∧ bd15 s.2.1 ∧ bd15 s.2.2.1 ∧ bd15 s.2.2.2
theorem ssAt_ok {b0 b1 b2 a1 a2 sh : Int} {st : XS} {xs : List Int} (hs : okX st) (hx : inB 32767 xs) : ∀ k, okX (ssAt b0 b1 b2 a1 a2 sh st xs k)
  | 0 => hs
  | k + 1 => by
    have h := ssAt_ok (b0 := b0) (b1 := b1) (b2 := b2) (a1 := a1) (a2 := a2) (sh := sh) hs hx k
    exact ⟨inB_get hx (by omega) k, h.1, limF_bd _, h.2.2.1⟩
/-- what the iterator hands to the loop. -/
def encO (x : Int × XS) : Array Value := #[(.int .i64 (x.1)), .agg #[(.int .i64 (x.2.1)), (.int .i64 (x.2.2.1)), (.int .i64 (x.2.2.2.1)), (.int .i64 (x.2.2.2.2))]]
theorem outputs_any (b0 b1 b2 a1 a2 sh x1 x2 y1 y2 : Int) (A : Option Addr) (n c : Nat) (w : World) :
    Calls Try.prog 86 #[.agg #[(.int .i64 b0), (.int .i64 b1), (.int .i64 b2), (.int .i64 a1), (.int .i64 a2), (.int .i64 sh)], .agg #[(.int .i64 x1), (.int .i64 x2), (.int .i64 y1), (.int .i64 y2)], .slice A n c] w fun e w' => e = .returned (.func (.func 101) #[] #[.pointer (some ⟨w.heap.size + 1, 0, none⟩), .pointer (some ⟨w.heap.size + 1 + 1, 0, none⟩), .pointer (some ⟨w.heap.size, 0, none⟩)]) ∧
      Below w.heap.size w w' ∧ Blk w' w.heap.size #[(.int .i64 b0), (.int .i64 b1), (.int .i64 b2), (.int .i64 a1), (.int .i64 a2), (.int .i64 sh)] ∧ Blk w' (w.heap.size + 1) #[(.int .i64 x1), (.int .i64 x2), (.int .i64 y1), (.int .i64 y2)] ∧ Blk w' (w.heap.size + 1 + 1) #[.slice A n c] := by
  go_enter Try.func86, Try.ntmps86
  go_wp2
  go_ret
  exact ⟨by first | rfl | (simp; done), by (repeat (first | (with_reducible exact Below.refl _ _) | ((with_reducible refine Below.setCell ?_ ?_ _); rotate_left 1; focus (first | (simp; done) | (simp; omega) | (simp at *; omega))) | ((with_reducible refine Below.alloc ?_ ?_ _); rotate_left 1; focus (first | (simp; done) | (simp; omega) | (simp at *; omega))) | (with_reducible refine Below.drew ?_) | ((with_reducible refine Calm.step (by assumption) ?_ ?_); rotate_left 1; focus (first | (simp; done) | (simp; omega) | (simp at *; omega))))), by (repeat (first | ((with_reducible refine Blk.at_ ?_); focus (first | rfl | (simp; done) | (simp; omega))) | (with_reducible refine Blk.alloc ?_ _) | (with_reducible refine Blk.below ?_ (by with_reducible assumption)) | (with_reducible refine Blk.drew ?_))), by (repeat (first | ((with_reducible refine Blk.at_ ?_); focus (first | rfl | (simp; done) | (simp; omega))) | (with_reducible refine Blk.alloc ?_ _) | (with_reducible refine Blk.below ?_ (by with_reducible assumption)) | (with_reducible refine Blk.drew ?_))), by (repeat (first | ((with_reducible refine Blk.at_ ?_); focus (first | rfl | (simp; done) | (simp; omega))) | (with_reducible refine Blk.alloc ?_ _) | (with_reducible refine Blk.below ?_ (by with_reducible assumption)) | (with_reducible refine Blk.drew ?_)))⟩
def blks (a b c d : Nat) (k : Nat) : Prop := k = a ∨ k = b ∨ k = c ∨ k = d

set_option maxRecDepth 100000 in
set_option maxHeartbeats 4000000 in
theorem outputs1_iter (b0 b1 b2 a1 a2 sh x1 x2 y1 y2 : Int) (xs : List Int) (Sb Xb Lb Db : Nat) (A : Option Addr) (c : Nat) (w : World) (n : Nat) (h0 : bd15 b0) (h1 : bd15 b1) (h2 : bd15 b2) (h3 : bd15 a1) (h4 : bd15 a2) (h5 : 0 ≤ sh ∧ sh ≤ 15)
    (hst : okX (x1, x2, y1, y2)) (hx : inB 32767 xs) (hn : xs.length ≤ 5000) (hS : Blk w Sb #[(.int .i64 b0), (.int .i64 b1), (.int .i64 b2), (.int .i64 a1), (.int .i64 a2), (.int .i64 sh)]) (hX : Blk w Xb #[(.int .i64 x1), (.int .i64 x2), (.int .i64 y1), (.int .i64 y2)]) (hL : Blk w Lb #[.slice A xs.length c]) (hC : Cells w A xs) (hD : 0 < xs.length → ∃ o, A = some ⟨Db, o, none⟩) :
    IterM Fence.wide n Try.prog 101 #[.pointer (some ⟨Xb, 0, none⟩), .pointer (some ⟨Lb, 0, none⟩), .pointer (some ⟨Sb, 0, none⟩)] encO (allS b0 b1 b2 a1 a2 sh (x1, x2, y1, y2) xs xs.length) (blks Sb Xb Lb Db) w := by
  intro l J W hCW hCl hle hJb hJs hY h00
  have KS := Calm.Blk.of_block hS (hCW _ (.inl rfl))
  have KX := Calm.Blk.of_block hX (hCW _ (.inr (.inl rfl)))
  have KL := Calm.Blk.of_block hL (hCW _ (.inr (.inr (.inl rfl))))
  have lS : Sb < W.heap.size := Nat.lt_of_lt_of_le hS.lt hle
  have lX : Xb < W.heap.size := Nat.lt_of_lt_of_le hX.lt hle
  have lL : Lb < W.heap.size := Nat.lt_of_lt_of_le hL.lt hle
  have lD : Db < W.heap.size := Nat.lt_of_lt_of_le (hCl Db (.inr (.inr (.inr rfl)))) hle
  have HCD : Hid (∀ (W' : World) (k : Nat), (∀ j, blks Sb Xb Lb Db j → W'.heap[j]? = w.heap[j]?) → k < xs.length → ∃ o, A = some ⟨Db, o, none⟩ ∧ W'.cell? ⟨Db, o + k, none⟩ = some (.int .i64 (xs.getD k 0))) := Lib.hid (fun W' k hW hk => by
    obtain ⟨o, hA⟩ := hD (by omega)
    obtain ⟨b, off, hA2, hl, hc⟩ := hC (by omega)
    rw [hA] at hA2
    cases hA2
    exact ⟨o, hA, (World.cell?_of_block (w := w) (a := ⟨Db, o + k, none⟩) (hW Db (.inr (.inr (.inr rfl))))).trans (hc k hk)⟩)
  have HCW := Lib.hid hCW
  have HJB := Lib.hid hJb
  have HJS := Lib.hid hJs
  have HSS := Lib.hid hS
  have HOK := Lib.hid (ssAt_ok (b0 := b0) (b1 := b1) (b2 := b2) (a1 := a1) (a2 := a2) (sh := sh) hst hx)
  have HXI := Lib.hid (fun k => inB_get hx (by omega) k)
  have HST : Hid (∀ (k : Nat) (W' : World), Calls Try.prog 102 #[.agg #[(.int .i64 b0), (.int .i64 b1), (.int .i64 b2), (.int .i64 a1), (.int .i64 a2), (.int .i64 sh)], .agg #[(.int .i64 ((ssAt b0 b1 b2 a1 a2 sh (x1, x2, y1, y2) xs k).1)), (.int .i64 ((ssAt b0 b1 b2 a1 a2 sh (x1, x2, y1, y2) xs k).2.1)), (.int .i64 ((ssAt b0 b1 b2 a1 a2 sh (x1, x2, y1, y2) xs k).2.2.1)), (.int .i64 ((ssAt b0 b1 b2 a1 a2 sh (x1, x2, y1, y2) xs k).2.2.2))], (.int .i64 (xs.getD k 0))] W' fun r w' =>
      r = .returned (.tuple #[(.int .i64 (soAt b0 b1 b2 a1 a2 sh (x1, x2, y1, y2) xs k)), .agg #[(.int .i64 ((ssAt b0 b1 b2 a1 a2 sh (x1, x2, y1, y2) xs (k + 1)).1)), (.int .i64 ((ssAt b0 b1 b2 a1 a2 sh (x1, x2, y1, y2) xs (k + 1)).2.1)), (.int .i64 ((ssAt b0 b1 b2 a1 a2 sh (x1, x2, y1, y2) xs (k + 1)).2.2.1)), (.int .i64 ((ssAt b0 b1 b2 a1 a2 sh (x1, x2, y1, y2) xs (k + 1)).2.2.2))]]) ∧ Below W'.heap.size W' w') :=
    Lib.hid (fun k W' => by
      obtain ⟨q1, q2, q3, q4⟩ := HOK.out k
      exact sStep_any b0 b1 b2 a1 a2 sh _ _ _ _ _ W' h0 h1 h2 h3 h4 h5 q1 q2 q3 q4 (HXI.out k))
  have HAS := Lib.hid (fun k => allS_succ b0 b1 b2 a1 a2 sh (x1, x2, y1, y2) xs k)
  have HAP := Lib.hid (fun k (hk : k < xs.length) => allS_post b0 b1 b2 a1 a2 sh (x1, x2, y1, y2) xs hk)
  obtain ⟨N, hN⟩ : ∃ N, N = xs.length := ⟨_, rfl⟩
  rw [← hN] at KL hY HCD HAP hn ⊢
  have HY := Lib.hid hY
  obtain ⟨Z, hZ⟩ : ∃ Z : Nat → XS, Z = ssAt b0 b1 b2 a1 a2 sh (x1, x2, y1, y2) xs := ⟨_, rfl⟩
  have HZ0 : Hid (Z 0 = (x1, x2, y1, y2)) := Lib.hid (by rw [hZ]; rfl)
  rw [← hZ] at HST HAS HAP
  obtain ⟨x00, x01, x02, xl, xf, xff⟩ := KX.o4
  obtain ⟨l00, ll, lf⟩ := KL.o1
  have HKS := Lib.hid KS
  clear hCW hJb hJs hS hX hL hC hD hst hx hN hY hZ h0 h1 h2 h3 h4 h5 KS KX KL
  refine callsIn_of_wp Try.func101 rfl trivial ?_ rfl
  simp only [Try.ntmps101, List.size_toArray, List.length_cons, List.length_nil, Nat.reduceAdd, Nat.reduceSub, Array.replicate_succ, Array.replicate_zero, List.push_toArray, List.append_toArray, List.nil_append, List.cons_append]
  gi_wp2
  gi_loopw [13] (fun i wr => ∃ k : Nat, k ≤ N ∧ i = (.int .i64 ((k : Int))) ∧ Blk wr W.heap.size #[(.int .i64 ((Z k).1)), (.int .i64 ((Z k).2.1)), (.int .i64 ((Z k).2.2.1)), (.int .i64 ((Z k).2.2.2))] ∧ J (allS b0 b1 b2 a1 a2 sh (x1, x2, y1, y2) xs k) wr ∧ ∀ j, blks Sb Xb Lb Db j → wr.heap[j]? = w.heap[j]?) (fun i _ => N - (intOf i).toNat)
  case atStart =>
    exact ⟨0, Nat.zero_le _, rfl, by rw [HZ0.out]; exact Blk.new _ _ _, HJB.out _ _ _ h00 ((Below.refl _ _).alloc (Nat.le_refl _) _), fun j hj => (Below.heap_alloc _ _ _ (by rcases hj with rfl | rfl | rfl | rfl <;> assumption)).trans (HCW.out j hj)⟩
  case round =>
    obtain ⟨k, hk, rfl, K1, hJ1, hC1⟩ := hrel
    have KSr := Calm.Blk.of_block HSS.out (hC1 _ (.inl rfl))
    have hlw : W.heap.size < wr.heap.size := K1.lt
    clear x00 x01 x02 xl xf xff l00 ll lf
    by_cases hk2 : k < N
    · obtain ⟨o, rfl, hin⟩ := HCD.out wr k hC1 hk2
      obtain ⟨s0, s1, s2, s3, s4, s5, sl, sf⟩ := KSr.o6
      obtain ⟨d0, d1, d2, d3, dl, df⟩ := K1.o4
      have HS1 := HST.out k
      obtain ⟨X, hX⟩ : ∃ X, X = xs.getD k 0 := ⟨_, rfl⟩
      obtain ⟨O, hO⟩ : ∃ O, O = soAt b0 b1 b2 a1 a2 sh (x1, x2, y1, y2) xs k := ⟨_, rfl⟩
      have HA1 := Lib.hid (HAS.out k)
      have HP1 := HAP.out k hk2
      rw [← hX] at hin HS1
      rw [← hO] at HS1 HA1 HP1
      have HSS1 := Lib.hid HS1
      have HK1 := Lib.hid K1
      have HJ1 := Lib.hid hJ1
      have HC1 := Lib.hid hC1
      have HPP := Lib.hid HP1
      clear KSr hX hO HS1 K1 hJ1 hC1 HP1
      gi_wp2_with fail
      refine ⟨trivial, fun h => by simp [Fence.wide] at h, ?_⟩
      refine (callsIn_wide.2 (HSS1.out _)).mono ?_
      rintro r w2 ⟨rfl, hb2⟩
      refine Hid.out ?_
      have hs2 := hb2.size
      have K2 := HK1.out.below hb2
      have hC2 : ∀ j, blks Sb Xb Lb Db j → w2.heap[j]? = w.heap[j]? := fun j hj => (hb2.block j (by have : j < W.heap.size := (by rcases hj with rfl | rfl | rfl | rfl <;> assumption); omega)).trans (HC1.out j hj)
      have hJ2 := HJB.out _ _ _ HJ1.out hb2
      obtain ⟨W4, hW4⟩ : ∃ W4, W4 = (((((w2.setCell ⟨W.heap.size, 0, none⟩ (.int .i64 ((Z (k + 1)).1))).setCell ⟨W.heap.size, 1, none⟩ (.int .i64 ((Z (k + 1)).2.1))).setCell ⟨W.heap.size, 2, none⟩ (.int .i64 ((Z (k + 1)).2.2.1))).setCell ⟨W.heap.size, 3, none⟩ (.int .i64 ((Z (k + 1)).2.2.2))).alloc (.cells #[(.int .i64 ((Z (k + 1)).1)), (.int .i64 ((Z (k + 1)).2.1)), (.int .i64 ((Z (k + 1)).2.2.1)), (.int .i64 ((Z (k + 1)).2.2.2))] 93)) := ⟨_, rfl⟩
      have hC4 : ∀ j, blks Sb Xb Lb Db j → W4.heap[j]? = w.heap[j]? := fun j hj => by
        have hjl : j < W.heap.size := (by rcases hj with rfl | rfl | rfl | rfl <;> assumption)
        rw [hW4, Below.heap_alloc _ _ _ (by simp; omega), Below.heap_setCell _ _ _ _ (by simp; omega), Below.heap_setCell _ _ _ _ (by simp; omega), Below.heap_setCell _ _ _ _ (by simp; omega), Below.heap_setCell _ _ _ _ (by simp; omega)]
        exact hC2 j hj
      have hJ4 : J (allS b0 b1 b2 a1 a2 sh (x1, x2, y1, y2) xs k) W4 := by
        rw [hW4]
        exact HJB.out _ _ _ (HJS.out _ _ _ _ (HJS.out _ _ _ _ (HJS.out _ _ _ _ (HJS.out _ _ _ _ hJ2)))) ((Below.refl _ _).alloc (Nat.le_refl _) _)
      have hl4 : W.heap.size < W4.heap.size := by rw [hW4]; simp; omega
      have K4 : Blk W4 W.heap.size #[(.int .i64 ((Z (k + 1)).1)), (.int .i64 ((Z (k + 1)).2.1)), (.int .i64 ((Z (k + 1)).2.2.1)), (.int .i64 ((Z (k + 1)).2.2.2))] := by
        rw [hW4]
        exact ((((K2.set (i := 0) (by simp) _).set (i := 1) (by simp) _).set (i := 2) (by simp) _).set (i := 3) (by simp) _).alloc _
      obtain ⟨fn, tmps, assign, body, hy, hR⟩ := HY.out _ (O, Z (k + 1)) W4 hJ4 hl4 hC4 HPP.out
      dsimp only [encO] at hy
      rw [hW4] at hy
      obtain ⟨e0, e1, e2, e3, el, ef⟩ := K2.o4
      have HK4 := Lib.hid K4
      have HW4 := Lib.hid hW4
      have HR := Lib.hid hR
      have HC4 := Lib.hid hC4
      have ne1 : ¬ w2.heap.size = W.heap.size := by omega
      have ne2 : ¬ W.heap.size = w2.heap.size := by omega
      clear hb2 K2 hC2 hJ2 hC4 hJ4 K4 hW4 hR d0 d1 d2 d3 dl df s0 s1 s2 s3 s4 s5 sl sf hin
      unfold Hid
      gi_wp2
      rw [← HW4.out]
      refine ⟨fun h => by simp [Fence.wide] at h, HR.out.mono ?_⟩
      rintro e W5 ⟨rfl, hJ5, hD5, hC5⟩
      have K5 := Calm.Blk.of_block HK4.out hD5
      have hC6 : ∀ j, blks Sb Xb Lb Db j → W5.heap[j]? = w.heap[j]? := fun j hj => (hC5 j hj).trans (HC4.out j hj)
      have HK5 := Lib.hid K5
      have HC6 := Lib.hid hC6
      have HJ5 := Lib.hid hJ5
      clear hJ5 hD5 hC5 K5 hC6 HW4 hy HR e0 e1 e2 e3 el ef
      gi_wp2
      go_roundw
      case rel => exact ⟨k + 1, by omega, by go_num, HK5.out, by rw [HA1.out]; exact HJ5.out, HC6.out⟩
      case measure => simp [intOf]; omega
    · obtain rfl : k = N := by omega
      clear KSr
      gi_wp2
      go_end0
      exact ⟨⟨_, rfl⟩, hJ1⟩
end Go.Proofs.Ytamldoidalnloaa
