/- Part 10 of the texts of the claim: X4, X5. -/
import Derived.Test.YtdeapbihbhoefaaGreatDoorMr9

/- (search).visit: the best list of all that further outputs make. -/
namespace Go.Proofs.YtdeapbihbhoefaaGreatDoor
open Go.RowKit
open Calm (bcell Blk)

theorem RelH.region3In {S : World → World → Prop} (ht' : ∀ a b c, S a b → S b c → S a c) (hdr : ∀ W, S W { W with drawn := W.drawn + 1 }) {P : Program} {id r m : Nat} {Q : Exit → Act → World → Prop} {a : Act} {w : World} {l : List Oper} (n : Nat) (hm : P.follows .mixedOrders = true) (hd : noDefer l = true) (hQ : ¬ LetsOut Q) (hok : Rel.okB l.toArray n = true) (hsz : Rel.sizeB l.toArray n a.tmps.size = true)
    (h : RelH.walk3 S P ((l.take n).filterMap (·.dst)) w a (fun Γ => ∀ (x : Nat → Value) (W : World), S w W → RelH.facts x W 0 Γ → wpList P l.toArray Q (l.drop n) (RelH.fill (l.take n) 0 x a) W) [] (l.take n)) :
    (Code.region id l.toArray true).wpIn (Fence.wide.inRound r) m P Q a w :=
  wpIn_region_any hm (wpAny_inRound (fun i o hi c hc => by
    unfold noDefer at hd
    rw [List.all_eq_true] at hd
    have := hd o (List.mem_of_getElem? (by simpa using hi))
    rw [hc] at this
    cases this) hQ _ _ _ _ (RelH.region3_w ht' hdr n hok hsz h))

theorem ownsRow_base {w : World} {base base' e size n : Nat} {v : Value} {xs : List Value} (h : w.ownsRow base e size v n xs) (hb : base' ≤ base) : w.ownsRow base' e size v n xs := by
  refine ⟨h.1, ?_⟩
  rcases h.2 with h | ⟨g, cap, cur, h1, h2, h3⟩
  · exact .inl h
  · exact .inr ⟨g, cap, cur, h1, Nat.le_trans hb h2, h3⟩
/-- the contract of visit at n further outputs. -/
def VisC (lk ht rc : Int) (ts gs ls : List Int) (A1 A2 A5 : Option Addr) (M L Q N c1 c2 c5 sb n : Nat) : Prop :=
  ∀ (l : List Int) (s : St) (b : Option (List Int)) (A3 A6 : Option Addr) (K c3 c6 : Nat) (w : World), K = l.length → K + n ≤ 100 → Good ht rc ts gs s → inB 2048 l → Cells w A6 l → Cells w A3 s.ps → Cells w A1 ts → Cells w A5 ls → Lim w →
    SB lk ht rc A1 A2 A5 M c1 L c2 N c5 sb b w → Off sb A6 → Off sb A3 →
    Calls Tryz.prog 67 #[.pointer (some ⟨sb, 0, none⟩), .slice A6 K c6, .agg #[(.int .i64 (s.h)), (.int .i64 ((s.lv : Int))), .slice A3 Q c3], (.int .i64 n)] w fun r w' => r = .returned (.tuple #[]) ∧ SB lk ht rc A1 A2 A5 M c1 L c2 N c5 sb (visF lk ht rc ts ls n l s b) w' ∧ But sb w w'

theorem cells_grown {X Y : World} {A : Option Addr} {zs : List Int} {row : Option Nat} (h : Cells X A zs) (hg : X.grownBy Y row) (hrow : ∀ r, row = some r → ∃ o : Obj, X.heap[r]? = some o ∧ o.isCells = false) : Cells Y A zs := by
  intro h0
  obtain ⟨b, off, hA, hl, hc⟩ := h h0
  exact ⟨b, off, hA, Nat.lt_of_lt_of_le hl hg.size, fun k hk => cell_kept (hc k hk) hg hrow⟩
theorem heapRow_any (B : Nat) {cs : Array Value} {t : TypeId} {X Y : World} {row : Option Nat} (h : X.heap[B]? = some (.cells cs t (0, 0))) (hg : X.grownBy Y row) (hrow : ∀ r, row = some r → ∃ o : Obj, X.heap[r]? = some o ∧ o.isCells = false) : Y.heap[B]? = some (.cells cs t (0, 0)) :=
  (hg.block B (Array.getElem?_eq_some_iff.1 h).1 (fun e' => by obtain ⟨o, ho, hc⟩ := hrow B e'.symm; rw [h] at ho; cases ho; cases hc)).trans h
theorem sb_own {β : Type} {lk ht rc : Int} {A1 A2 A5 : Option Addr} {M c1 L c2 N c5 sb B : Nat} (f : β → Option (List Int)) (hB : sb < B) : OwnFrom B (fun (s : β) W => SB lk ht rc A1 A2 A5 M c1 L c2 N c5 sb (f s) W) := by
  rintro s X Y row ⟨B0, d, h1, h2, h3⟩ hg hrow
  exact ⟨B0, d, h1.of_block (hg.block sb h1.lt (fun e => by have := (hrow sb e.symm).1; omega)), cells_grown h2 hg (fun r e => (hrow r e).2), h3⟩
theorem but_own {β : Type} (w6 : World) (sb : Nat) : OwnFrom w6.heap.size (fun (_ : β) W => But sb w6 W) := by
  rintro s X Y row h hg hrow
  exact ⟨hg.os.trans h.os, hg.tape.trans h.tape, hg.output.trans h.output, Nat.le_trans h.size hg.size, fun k hk => (hg.block k (Nat.lt_of_lt_of_le hk.1 h.size) (fun e => by have h1 := (hrow k e.symm).1; have h2 := hk.1; omega)).trans (h.block k hk)⟩

set_option maxHeartbeats 4000000 in
set_option maxRecDepth 100000 in
theorem visit_succ (lk ht rc : Int) (ts gs ls : List Int) (A1 A2 A5 : Option Addr) (M L Q N c1 c2 c5 sb n : Nat) (hM : M = ts.length) (hQ : Q + 1 = ts.length) (hN : N = ls.length) (hN2 : N ≤ 5000) (hV : Valid lk ht rc ts gs) (hls : inB 2048 ls)
    (oG : sb ≠ 0) (o1 : Off sb A1) (o5 : Off sb A5) (IH : VisC lk ht rc ts gs ls A1 A2 A5 M L Q N c1 c2 c5 sb n) : VisC lk ht rc ts gs ls A1 A2 A5 M L Q N c1 c2 c5 sb (n + 1) := by
  intro l s b A3 A6 K c3 c6 w hK hK2 hS hl hX hP hT hX5 hL hSB o6 o3
  have hfn : ∀ f, Fence.wide.fn f = True := fun _ => rfl
  have HIH := Lib.hid IH
  have HX := Lib.hid hX
  have HSB := Lib.hid hSB
  obtain ⟨B0, d0, K0, -, -⟩ := hSB
  have HK0 := Lib.hid K0
  obtain ⟨c00, c01, c02, c03, c04, c05, c06, c07, c08, l0, f0⟩ := K0.o9
  have HKP : Hid (∀ W, Calls Tryz.prog 82 #[.agg #[(.int .i64 lk), (.int .i64 ht), .slice A1 M c1, (.int .i64 rc), .slice A2 L c2], .agg #[(.int .i64 (s.h)), (.int .i64 ((s.lv : Int))), .slice A3 Q c3], .slice A5 N c5] W fun e w' => e = .returned (.func (.func 92) #[] #[.pointer (some ⟨W.heap.size + 1 + 1, 0, none⟩), .pointer (some ⟨W.heap.size, 0, none⟩), .pointer (some ⟨W.heap.size + 1, 0, none⟩)]) ∧
      Below W.heap.size W w' ∧ Blk w' W.heap.size #[(.int .i64 lk), (.int .i64 ht), .slice A1 M c1, (.int .i64 rc), .slice A2 L c2] ∧ Blk w' (W.heap.size + 1) #[(.int .i64 (s.h)), (.int .i64 ((s.lv : Int))), .slice A3 Q c3] ∧ Blk w' (W.heap.size + 1 + 1) #[.slice A5 N c5]) := Lib.hid (fun W => kept_any lk ht rc s A1 A2 A3 A5 M L Q N c1 c2 c3 c5 W)
  have HIT : Hid (∀ (W : World) (Gb Sb Lb m : Nat), 1 ≤ m → Cells W A1 ts → Cells W A3 s.ps → Cells W A5 ls → Lim W → Blk W Gb #[(.int .i64 lk), (.int .i64 ht), .slice A1 M c1, (.int .i64 rc), .slice A2 L c2] → Blk W Sb #[(.int .i64 (s.h)), (.int .i64 ((s.lv : Int))), .slice A3 Q c3] → Blk W Lb #[.slice A5 N c5] → Gb ≠ sb → Sb ≠ sb → Lb ≠ sb → sb < Gb →
      IterR Fence.wide m Tryz.prog 92 #[.pointer (some ⟨Lb, 0, none⟩), .pointer (some ⟨Gb, 0, none⟩), .pointer (some ⟨Sb, 0, none⟩)] 2 (KeptR Q sb) (keptK lk ht rc ts s ls N) (Rest sb W.heap.size) W) := Lib.hid (fun W Gb Sb Lb m hm q1 q3 q5 qL kG kS kL e1 e2 e3 e4 =>
    kept1_iter lk ht rc s ts gs ls A1 A2 A3 A5 M L Q N c1 c2 c3 c5 Gb Sb Lb sb W m hM (by have := hS.pl; omega) hN hV hS hls hN2 qL q1 q3 q5 kG kS kL oG o1 o3 o5 e1 e2 e3 e4 hm)
  have hn0 : ((n : Int) + 1 == 0) = false := beq_eq_false_iff_ne.2 (by omega)
  have hsbw : sb < w.heap.size := l0
  have sl1 : sb < w.heap.size + 1 := by omega
  have sl2 : sb < w.heap.size + 1 + 1 := by omega
  have sl3 : sb < w.heap.size + 1 + 1 + 1 := by omega
  have sl4 : sb < w.heap.size + 1 + 1 + 1 + 1 := by omega
  have HK := Lib.hid hK
  have HK2 := Lib.hid hK2
  have HN := Lib.hid hN
  have HV := Lib.hid hV
  have HS := Lib.hid hS
  have HLS := Lib.hid hls
  have HL := Lib.hid hl
  have HP := Lib.hid hP
  have HT := Lib.hid hT
  have HX5 := Lib.hid hX5
  have HLI := Lib.hid hL
  have HO6 := Lib.hid o6
  have HO5 := Lib.hid o5
  have HO3 := Lib.hid o3
  have HO1 := Lib.hid o1
  clear hX K0 IH hM hQ hN hV hls o1 o5 hK hK2 hS hl hP hT hX5 hL o6 o3
  rw [show (((n + 1 : Nat) : Int)) = (n : Int) + 1 by omega]
  refine (callsIn_wide (n := 10)).1 ?_
  refine callsIn_of_wp_marks Tryz.func67 rfl trivial ?_ rfl
  simp only [Tryz.ntmps67, List.size_toArray, List.length_cons, List.length_nil, Nat.reduceAdd, Nat.reduceSub, Array.replicate_succ, Array.replicate_zero, List.push_toArray, List.append_toArray, List.nil_append, List.cons_append]
  gi_wp2
  refine wpIn_wide.2 ?_
  refine name_world ?_
  intro w4 e4
  have hs4 : w4.heap.size = w.heap.size + 4 := by rw [e4]; simp
  have KS4 : Blk w4 sb _ := (show Blk w4 sb _ from by rw [e4]; exact HK0.out.below (by (repeat (first | (with_reducible exact Below.refl _ _) | ((with_reducible refine Below.setCell ?_ ?_ _); rotate_left 1; focus (first | (simp; done) | (simp; omega) | (simp at *; omega))) | ((with_reducible refine Below.alloc ?_ ?_ _); rotate_left 1; focus (first | (simp; done) | (simp; omega) | (simp at *; omega))) | (with_reducible refine Below.drew ?_) | ((with_reducible refine Calm.step (by assumption) ?_ ?_); rotate_left 1; focus (first | (simp; done) | (simp; omega) | (simp at *; omega)))))))
  have P4 : Blk w4 w.heap.size #[.pointer (some ⟨sb, 0, none⟩)] := by rw [e4]; (repeat (first | ((with_reducible refine Blk.at_ ?_); focus (first | rfl | (simp; done) | (simp; omega))) | (with_reducible refine Blk.alloc ?_ _) | (with_reducible refine Blk.below ?_ (by with_reducible assumption)) | (with_reducible refine Blk.drew ?_)))
  have P5 : Blk w4 (w.heap.size + 1) #[.slice A6 K c6] := by rw [e4]; (repeat (first | ((with_reducible refine Blk.at_ ?_); focus (first | rfl | (simp; done) | (simp; omega))) | (with_reducible refine Blk.alloc ?_ _) | (with_reducible refine Blk.below ?_ (by with_reducible assumption)) | (with_reducible refine Blk.drew ?_)))
  have P6 : Blk w4 (w.heap.size + 2) #[(.int .i64 (s.h)), (.int .i64 ((s.lv : Int))), .slice A3 Q c3] := by rw [e4]; (repeat (first | ((with_reducible refine Blk.at_ ?_); focus (first | rfl | (simp; done) | (simp; omega))) | (with_reducible refine Blk.alloc ?_ _) | (with_reducible refine Blk.below ?_ (by with_reducible assumption)) | (with_reducible refine Blk.drew ?_)))
  have P7 : Blk w4 (w.heap.size + 3) #[(.int .i64 ((n : Int) + 1))] := by rw [e4]; (repeat (first | ((with_reducible refine Blk.at_ ?_); focus (first | rfl | (simp; done) | (simp; omega))) | (with_reducible refine Blk.alloc ?_ _) | (with_reducible refine Blk.below ?_ (by with_reducible assumption)) | (with_reducible refine Blk.drew ?_)))
  have HB4 := Lib.hid (show Below w.heap.size w w4 from by rw [e4]; (repeat (first | (with_reducible exact Below.refl _ _) | ((with_reducible refine Below.setCell ?_ ?_ _); rotate_left 1; focus (first | (simp; done) | (simp; omega) | (simp at *; omega))) | ((with_reducible refine Below.alloc ?_ ?_ _); rotate_left 1; focus (first | (simp; done) | (simp; omega) | (simp at *; omega))) | (with_reducible refine Below.drew ?_) | ((with_reducible refine Calm.step (by assumption) ?_ ?_); rotate_left 1; focus (first | (simp; done) | (simp; omega) | (simp at *; omega))))))
  clear e4 c00 c01 c02 c03 c04 c05 c06 c07 c08 f0 l0
  have HP4 := Lib.hid P4
  have HP5 := Lib.hid P5
  have HP7 := Lib.hid P7
  have ls4 := KS4.lt
  obtain ⟨c00, c01, c02, c03, c04, c05, c06, c07, c08, l0, f0⟩ := KS4.o9
  obtain ⟨p4, p4l, p4f⟩ := P4.o1
  obtain ⟨p6, p61, p62, p6l, p6f⟩ := P6.o3
  clear KS4 P4 P5 P6 P7
  (try simp only [Act.put, List.setIfInBounds_toArray, List.set_cons_zero, List.set_cons_succ])
  refine Rel.region3 9 (by kernel_rfl) (by kernel_rfl) (by kernel_rfl) ?_
  simp only [List.take_succ_cons, List.take_zero, List.drop_succ_cons, List.drop_zero, List.filterMap_cons, List.filterMap_nil]
  repeat (apply Rel.op3; (focus (first | exact Rel.gno rfl | exact Rel.gyes _ true _ rfl rfl rfl | exact Rel.gyes _ false _ rfl rfl rfl)); (focus (intro a W hb hd hbase; obtain ⟨hc, hf⟩ := bcell hb; clear hb hf; simp [Rel.deps, Rel.dep1, Rel.ons, Region.binds, Act.eval] at hd; simp only [Act.eval, List.mem_cons, List.not_mem_nil, not_or, and_imp, or_false, Array.getD_eq_getD_getElem?] at hbase; go_simp; (try go_bits); (try rfl); done)); (try simp only [List.nil_append, List.cons_append]))
  refine Rel.done3 ?_
  intro x w5 hb5 hx
  simp only [Rel.facts, Nat.zero_add, Nat.reduceAdd] at hx
  obtain ⟨e0, e1, e2, e3, e4, e5, e6, e7, e8, _⟩ := hx
  simp only [Rel.fill, Nat.zero_add, Nat.reduceAdd, e0, e1, e2, e3, e4, e5, e6, e7, e8]
  simp only [Act.put, List.setIfInBounds_toArray, List.set_cons_zero, List.set_cons_succ]
  clear e0 e1 e2 e3 e4 e5 e6 e7 e8
  clear c00 c01 c02 c03 c04 c05 c06 c07 c08 l0 f0 p4 p4l p4f p6 p61 p62 p6l p6f
  have hs5 := hb5.size
  have HB5 := Lib.hid (HB4.out.trans (hb5.mono (by omega)))
  have HP4' := Lib.hid (HP4.out.below hb5)
  have HP5' := Lib.hid (HP5.out.below hb5)
  have HP7' := Lib.hid (HP7.out.below hb5)
  clear hb5 HB4 HP4 HP5 HP7
  go_wp2_with (go_at_call 82; refine (HKP.out _).mono ?_; rintro r w6 ⟨rfl, hb6, kG, kS, kL⟩)
  have hs6 := hb6.size
  have gl6 := kG.lt
  have hsb6 : sb < w6.heap.size := by omega
  have HB6 := Lib.hid (HB5.out.trans (hb6.mono (by omega)))
  have HP46 := Lib.hid (HP4'.out.below hb6)
  have HP56 := Lib.hid (HP5'.out.below hb6)
  have HP76 := Lib.hid (HP7'.out.below hb6)
  have HSB6 := Lib.hid (HSB.out.of HB6.out)
  have HIT6 := Lib.hid (HIT.out w6 w5.heap.size (w5.heap.size + 1) (w5.heap.size + 1 + 1) 9 (by omega) (HT.out.below HB6.out) (HP.out.below HB6.out) (HX5.out.below HB6.out) (HLI.out.below HB6.out) kG kS kL (by omega) (by omega) (by omega) (by omega))
  have HC6 := Lib.hid (show Cells w6 A1 ts ∧ Cells w6 A5 ls ∧ Cells w6 A6 l ∧ Lim w6 from ⟨HT.out.below HB6.out, HX5.out.below HB6.out, HX.out.below HB6.out, HLI.out.below HB6.out⟩)
  clear hb6 kG kS kL HIT HKP HP4' HP5' HP7' HB5
  gi_wp2
  have hIO : OwnFrom w6.heap.size (fun (pre : List (Int × St)) W => SB lk ht rc A1 A2 A5 M c1 L c2 N c5 sb (pre.foldl (fun b x => visF lk ht rc ts ls n (l ++ [x.1]) x.2 b) b) W ∧ But sb w6 W) :=
    OwnFrom.and (sb_own (fun pre : List (Int × St) => pre.foldl (fun b x => visF lk ht rc ts ls n (l ++ [x.1]) x.2 b) b) hsb6) (but_own w6 sb)
  have HIO := Lib.hid hIO
  refine range_iterR (F := Fence.wide) (n := 10) rfl (by decide) (gf := 92) (lb := #[.pointer (some ⟨w5.heap.size + 1 + 1, 0, none⟩), .pointer (some ⟨w5.heap.size, 0, none⟩), .pointer (some ⟨w5.heap.size + 1, 0, none⟩)]) rfl trivial (enters_of Tryz.func92 (by kernel_rfl) rfl)
    (all := keptK lk ht rc ts s ls N) (R := KeptR Q sb) (C := Rest sb w6.heap.size) (fun k hk => hk.1) HIT6.out
    _ hIO ⟨HSB6.out, But.refl _ _⟩
    (fun (pre : List (Int × St)) (x : Int × St) (a' : Act) (W : World) => (SB lk ht rc A1 A2 A5 M c1 L c2 N c5 sb (pre.foldl (fun b x => visF lk ht rc ts ls n (l ++ [x.1]) x.2 b) b) W ∧ But sb w6 W) ∧
      ∃ Bx B c, w6.heap.size + 1 < Bx ∧ W.heap[Bx]? = some (.cells #[(.int .i64 (x.2.h)), (.int .i64 ((x.2.lv : Int))), .slice (some B) Q c] 45 (0, 0)) ∧ Cells W (some B) x.2.ps ∧ B.block ≠ sb ∧ a' = { tmps := #[.pointer (some ⟨sb, 0, none⟩), .slice A6 K c6, .agg #[(.int .i64 (s.h)), (.int .i64 ((s.lv : Int))), .slice A3 Q c3], (.int .i64 ((n : Int) + 1)), .pointer (some ⟨w.heap.size, 0, none⟩), .pointer (some ⟨w.heap.size + 1, 0, none⟩), .pointer (some ⟨w.heap.size + 1 + 1, 0, none⟩), .pointer (some ⟨w.heap.size + 1 + 1 + 1, 0, none⟩), undef, (.int .i64 (x.1)), .pointer (some ⟨Bx, 0, none⟩), (.int .i64 ((n : Int) + 1)), .bool false, undef, undef, undef, undef, undef, undef, undef, undef, undef, undef, undef, undef, undef, undef, undef, undef, undef, undef, undef, undef, undef, undef, undef, undef, undef, undef, undef, .pointer (some ⟨sb, 0, none⟩), .pointer (some ⟨sb, 0, none⟩), .pointer (some ⟨sb, 0, none⟩), .agg #[(.int .i64 lk), (.int .i64 ht), .slice A1 M c1, (.int .i64 rc), .slice A2 L c2], .agg #[(.int .i64 (s.h)), (.int .i64 ((s.lv : Int))), .slice A3 Q c3], .pointer (some ⟨sb, 0, none⟩), .pointer (some ⟨sb, 0, none⟩), .pointer (some ⟨sb, 5, none⟩), .slice A5 N c5, .func (.func 92) #[] #[.pointer (some ⟨w5.heap.size + 1 + 1, 0, none⟩), .pointer (some ⟨w5.heap.size, 0, none⟩), .pointer (some ⟨w5.heap.size + 1, 0, none⟩)], (.int .i64 (x.1)), .agg #[(.int .i64 (x.2.h)), (.int .i64 ((x.2.lv : Int))), .slice (some B) Q c], undef, undef, undef, undef, undef, undef, undef, undef, undef, undef], defers := [] })
    ?hax ?assign ?body ?done
  case hax =>
    rintro pre x a' u X Y row ⟨hi, Bx, B, c, h1, h2, h3, h4, h5⟩ hg hrow
    exact ⟨HIO.out pre X Y row hi hg hrow, Bx, B, c, h1, heapRow_any Bx h2 hg (fun r e => (hrow r e).2), cells_grown h3 hg (fun r e => (hrow r e).2), h4, h5⟩
  case assign =>
    rintro r pre x v W hi ⟨post, hpost⟩ hsz hcb hvs ⟨B, c, rfl, hC, hne⟩
    have hsem : ∀ (ρ : Operand → Value) (o : Oper), (∀ c, o.op ≠ .defer c) → Oper.semAt (some r) ρ o = execOp ρ o := Oper.semAt_some r
    have HI := Lib.hid hi
    have HCX := Lib.hid hC
    clear hi hIO hpost hcb hC
    gi_wp2
    exact ⟨(Same.refl _ _).alloc _, HIO.out.alloc _ HI.out, W.heap.size, B, c, hsz, World.alloc_heap_new W _, HCX.out.below ((Below.refl _ _).alloc (Nat.le_refl _) _), hne, rfl⟩
  case body =>
    rintro r pre ⟨y, z⟩ a' W ⟨⟨hsb, hbut⟩, Bx, B, c, hBx, hx, hC, hne, rfl⟩ ⟨post, hpost⟩ hsz hcb
    have hmem : (y, z) ∈ keptK lk ht rc ts s ls N := by rw [hpost]; simp
    obtain ⟨g1, g2, -, -⟩ := keptK_good HS.out HLS.out N (y, z) hmem
    have HG1 := Lib.hid g1
    have HG2 := Lib.hid g2
    have hn100 : n ≤ 100 := by have := HK2.out; omega
    have ls6 : sb < W.heap.size := Nat.lt_of_lt_of_le hsb6 hbut.size
    have q4 := blk_but HP46.out (by omega) hbut
    have q5 := blk_but HP56.out (by omega) hbut
    have q7 := blk_but HP76.out (by omega) hbut
    have qx := Calm.Blk.row hx
    obtain ⟨p4, p4l, p4f⟩ := q4.o1
    obtain ⟨p5, p5l, p5f⟩ := q5.o1
    obtain ⟨p7, p7l, p7f⟩ := q7.o1
    obtain ⟨x0, x1, x2, xl, xf⟩ := qx.o3
    have HCW := Lib.hid (show Cells W A1 ts ∧ Cells W A5 ls ∧ Cells W A6 l ∧ Lim W ∧ Cells W (some B) z.ps from ⟨HC6.out.1.but HO1.out hbut, HC6.out.2.1.but HO5.out hbut, HC6.out.2.2.1.but HO6.out hbut, HC6.out.2.2.2.but oG hbut, hC⟩)
    have HSBW := Lib.hid hsb
    have HBW := Lib.hid hbut
    have hTC := Lib.hid (fun (W' : World) (hS : Sett K (.int .i64 y) W.heap.size W W') => bcell hS.below)
    obtain ⟨i1, hi1, jz0, jz1, jz2⟩ := info_parts Tryz.infoI
    clear hpost hmem g1 g2 hIO hsb hbut hcb hx hC q4 q5 q7 qx
    refine wpIn_block ?_
    refine RelH.region3In (S := Sett K (.int .i64 y) W.heap.size) Sett.trans Sett.drawn 9 (by kernel_rfl) (by kernel_rfl) (by rintro ⟨a, w, h⟩; exact h) (by kernel_rfl) (by kernel_rfl) ?_
    simp only [List.take_succ_cons, List.take_zero, List.drop_succ_cons, List.drop_zero, List.filterMap_cons, List.filterMap_nil]
    iterate 2 (apply RelH.op3 Sett.refl; (focus (first | exact RelH.gno rfl | exact RelH.gyes _ true _ rfl rfl rfl | exact RelH.gyes _ false _ rfl rfl rfl)); (focus (intro a W x hb hd hbase; obtain ⟨hc, hf⟩ := hTC.out W hb; clear hb hf; simp [RelH.deps, RelH.dep1, Rel.ons, Region.binds, Act.eval] at hd; simp only [Act.eval, List.mem_cons, List.not_mem_nil, not_or, and_imp, or_false, Array.getD_eq_getD_getElem?] at hbase; go_simp; (try go_bits); (try rfl); done)); (try simp only [List.nil_append, List.cons_append]))
    refine RelH.callR3 (fun _ u W' => W'.ownsRow W.heap.size 3 1 u K (l.map (Value.int .i64))) (fun x v W W' h hS => ownsRow_sett h hS (by rw [List.set_eq_of_length_le (by simp; have := HK.out; omega)])) RelH.loc_const (fun W W' hS h => Sett.ofGe hS h) (RelH.gno rfl) ?_ ?_
    · intro a W' x hb hd hbase
      refine ⟨81, #[.slice A6 K c6], ?_, (clone_any l A6 K c6 W' HK.out (HCW.out.2.2.1.below hb.below) (by have := HK2.out; omega)).mono ?_⟩
      · clear hb
        simp [RelH.deps, RelH.dep1, Rel.ons, Region.binds, Act.eval] at hd
        go_simp
        (first | done | rfl | (refine ⟨?_, ?_⟩ <;> rfl))
      · rintro e W2 ⟨⟨B', d', rfl, ho⟩, hbb⟩
        exact ⟨_, rfl, ownsRow_base ho hb.below.size, hbb⟩
    (try simp only [List.nil_append, List.cons_append])
    iterate 1 (apply RelH.op3 Sett.refl; (focus (first | exact RelH.gno rfl | exact RelH.gyes _ true _ rfl rfl rfl | exact RelH.gyes _ false _ rfl rfl rfl)); (focus (intro a W x hb hd hbase; obtain ⟨hc, hf⟩ := hTC.out W hb; clear hb hf; simp [RelH.deps, RelH.dep1, Rel.ons, Region.binds, Act.eval] at hd; simp only [Act.eval, List.mem_cons, List.not_mem_nil, not_or, and_imp, or_false, Array.getD_eq_getD_getElem?] at hbase; go_simp; (try go_bits); (try rfl); done)); (try simp only [List.nil_append, List.cons_append]))
    refine RelH.opW3 (fun _ => Rel.NewS W.heap.size 1 1 #[(.int .i64 y)]) (fun x v W W' h hS => by
      obtain ⟨g, h1, h2, h3⟩ := h
      refine ⟨g, h1, h2, Blk.sett h3 hS h2 ?_⟩
      apply Array.toList_inj.1
      rw [Array.toList_setIfInBounds]
      cases K with
      | zero => rfl
      | succ q => simp) RelH.loc_const (RelH.gno rfl) ?_ ?_
    · intro a W' x hb hd hbase
      simp [RelH.deps, RelH.dep1, Rel.ons, Region.binds, Act.eval] at hd
      refine ⟨.slice (some ⟨W'.heap.size, 0, none⟩) 1 1, W'.alloc (.cells #[(.int .i64 y)] 3), ?_, ⟨_, rfl, hb.below.size, Calm.Blk.new W' _ _⟩, Sett.of ((Below.refl _ _).alloc (Nat.le_refl _) _) hb.below.size⟩
      go_simp
      (first | done | rfl | (refine ⟨?_, ?_⟩ <;> rfl))
    (try simp only [List.nil_append, List.cons_append])
    refine RelH.app3 (fun _ u W' => W'.ownsRow W.heap.size 3 1 u (K + 1) (l.map (Value.int .i64) ++ [(.int .i64 y)])) (fun x v W W' h hS => ownsRow_sett h hS (by
      have hl : (l.map (Value.int .i64)).length = K := by simp; exact HK.out.symm
      rw [← hl]; simp)) RelH.loc_const (.tmp 54) (.tmp 56) 22 rfl (RelH.gno rfl) ?_ ?_
    · intro a W' x hb hd hbase
      simp [RelH.deps, RelH.dep1, Rel.ons, Region.binds] at hd
      obtain ⟨⟨_, ho⟩, ⟨_, hx⟩, _⟩ := hd
      obtain ⟨g, hxv, _, hxk⟩ := hx
      rw [hxv]
      exact append_sett (P := Tryz.prog) W.heap.size 22 22 3 i1 _ 8 Tryz.underlying22 hi1 jz0 jz1 jz2 rfl _ K _ (.int .i64 y) rfl W' ho hb.below.size (by unfold maxLen; have := HK2.out; omega) (by have := HK2.out; omega) g 1 (hxk.cell 0 _ rfl)
    (try simp only [List.nil_append, List.cons_append])
    iterate 3 (apply RelH.op3 Sett.refl; (focus (first | exact RelH.gno rfl | exact RelH.gyes _ true _ rfl rfl rfl | exact RelH.gyes _ false _ rfl rfl rfl)); (focus (intro a W x hb hd hbase; obtain ⟨hc, hf⟩ := hTC.out W hb; clear hb hf; simp [RelH.deps, RelH.dep1, Rel.ons, Region.binds, Act.eval] at hd; simp only [Act.eval, List.mem_cons, List.not_mem_nil, not_or, and_imp, or_false, Array.getD_eq_getD_getElem?] at hbase; go_simp; (try go_bits); (try rfl); done)); (try simp only [List.nil_append, List.cons_append]))
    refine RelH.done3 ?_
    intro x w7 hS hx
    simp only [RelH.facts, Nat.zero_add, Nat.reduceAdd] at hx
    obtain ⟨e0, e1, e2, e3, -, e5, e6, e7, e8, _⟩ := hx
    obtain ⟨B7, d7, v7⟩ := own_slice e5
    rw [v7] at e5
    obtain ⟨B7', d7', v8, hge, hcc⟩ := own_ints (zs := l ++ [y]) (by simpa using e5) (by simp; exact HK.out)
    cases v8
    simp only [RelH.fill, Nat.zero_add, Nat.reduceAdd, e0, e1, v7, e3, e6, e7, e8]
    simp only [Act.put, List.setIfInBounds_toArray, List.set_cons_zero, List.set_cons_succ]
    have hbw := hS.below
    have HB7 := Lib.hid hbw
    have HC7 := Lib.hid hcc
    have HGE := Lib.hid hge
    have HIV := Lib.hid (HIH.out (l ++ [y]) z _ (some B) B7 (K + 1) c d7 w7 (by simp; exact HK.out) (by have := HK2.out; omega) HG1.out (fun q hq => by
      rcases List.mem_append.1 hq with hq | hq
      · exact HL.out q hq
      · obtain rfl := List.mem_singleton.1 hq
        exact HG2.out) hcc (HCW.out.2.2.2.2.below hbw) (HCW.out.1.below hbw) (HCW.out.2.1.below hbw) (HCW.out.2.2.2.1.below hbw) (HSBW.out.of hbw) (fun p hp => by have := hge p hp; omega) (fun p hp => by cases hp; exact hne))
    clear hbw hcc hge e0 e1 e2 e3 e5 v7 e6 e7 e8 hS hTC p4 p4l p4f p5 p5l p5f p7 p7l p7f x0 x1 x2 xl xf
    go_wp2_with (go_at_call 67; refine HIV.out.mono ?_; rintro e w9 ⟨rfl, hs9, hb9⟩)
    refine ⟨fun k o hk ho => ?_, ?_, ?_⟩
    · have hk1 := (Array.getElem?_eq_some_iff.1 ho).1
      have hk2 : k ≠ sb := by
        rcases hk with hk | rfl | rfl
        · exact hk.2
        · omega
        · omega
      have h1 := HB7.out.size
      rw [hb9.block k ⟨by omega, hk2⟩, HB7.out.block k hk1]
      exact ho
    · rw [List.foldl_append]
      exact hs9
    · exact (HBW.out.trans (But.of HB7.out)).trans hb9
  case done =>
    rintro W ⟨hsb, hbut⟩ hdef
    obtain ⟨h1, h2⟩ := HIO.out.putObj (s := keptK lk ht rc ts s ls N) (.deferred none) ⟨hsb, hbut⟩ (Nat.le_refl _) hdef rfl
    have H1 := Lib.hid h1
    have H2 := Lib.hid h2
    have HD := Lib.hid hdef
    clear hsb hbut hIO h1 h2 hdef
    gi_wp2
    refine ⟨by simp, .inl ⟨_, _, rfl, run_takeDeferred HD.out, ?_⟩⟩
    refine ⟨.tuple #[], by simp [results, Tryz.results67, go_sem], rfl, ?_, (But.of HB6.out).trans H2.out⟩
    have h1 := H1.out
    have e : visF lk ht rc ts ls (n + 1) l s b = (keptK lk ht rc ts s ls N).foldl (fun b x => visF lk ht rc ts ls n (l ++ [x.1]) x.2 b) b := by rw [HN.out]; rfl
    rw [e]
    exact h1
end Go.Proofs.YtdeapbihbhoefaaGreatDoor

/- protect.Loudest. -/
namespace Go.Proofs.YtdeapbihbhoefaaGreatDoor
open Go.RowKit
open Calm (bcell Blk)

theorem visit_any (lk ht rc : Int) (ts gs ls : List Int) (A1 A2 A5 : Option Addr) (M L Q N c1 c2 c5 sb : Nat) (hM : M = ts.length) (hQ : Q + 1 = ts.length) (hN : N = ls.length) (hN2 : N ≤ 5000) (hV : Valid lk ht rc ts gs) (hls : inB 2048 ls)
    (oG : sb ≠ 0) (o1 : Off sb A1) (o5 : Off sb A5) : ∀ n, VisC lk ht rc ts gs ls A1 A2 A5 M L Q N c1 c2 c5 sb n
  | 0 => fun l s b A3 A6 K c3 c6 w hK hK2 hS hl hX hP hT hX5 hL hSB o6 o3 => visit_zero lk ht rc s l b A1 A2 A3 A5 A6 M L Q N K c1 c2 c3 c5 c6 sb w hK (by omega) hX hl hSB o6
  | n + 1 => visit_succ lk ht rc ts gs ls A1 A2 A5 M L Q N c1 c2 c5 sb n hM hQ hN hN2 hV hls oG o1 o5 (visit_any lk ht rc ts gs ls A1 A2 A5 M L Q N c1 c2 c5 sb hM hQ hN hN2 hV hls oG o1 o5 n)

/-- the state at rest. -/
def restS (ts gs : List Int) : St := ⟨0, gs.length - 1, List.replicate (ts.length - 1) 0⟩
/-- the loudest list of n levels. -/
def loudF (lk ht rc : Int) (ts gs ls : List Int) (n : Nat) : Option (List Int) := visF lk ht rc ts ls n [] (restS ts gs) none
def loudErr (lk ht rc : Int) (ts gs ls : List Int) (n : Int) : Int := firstOf [guardErr lk ht rc ts gs, someErr ls.length 6, ascErr ls (-2048) 2048, rangeErr n 0 6]

set_option maxHeartbeats 4000000 in
set_option maxRecDepth 100000 in
theorem Loudest_bad (lk ht rc n : Int) (ts gs ls : List Int) (A1 A2 A5 : Option Addr) (c1 c2 c5 M L N : Nat) (w : World) (hM : M = ts.length) (hL : L = gs.length) (hN : N = ls.length) (hT : Cells w A1 ts) (hG : Cells w A2 gs) (hX : Cells w A5 ls) (h1 : M ≤ 5000) (h2 : L ≤ 5000) (h3 : N ≤ 5000)
    (he : loudErr lk ht rc ts gs ls n ≠ 0) :
    Calls Tryz.prog 33 #[.agg #[(.int .i64 lk), (.int .i64 ht), .slice A1 M c1, (.int .i64 rc), .slice A2 L c2], .slice A5 N c5, (.int .i64 n)] w fun r w' => r = .returned (.tuple #[.slice none 0 0, (.int .i64 (loudErr lk ht rc ts gs ls n))]) ∧ Below w.heap.size w w' := by
  have HCG : Hid (∀ W, Cells W A1 ts → Cells W A2 gs → Calls Tryz.prog 35 #[.agg #[(.int .i64 lk), (.int .i64 ht), .slice A1 M c1, (.int .i64 rc), .slice A2 L c2]] W fun r w' => r = .returned (.int .i64 (guardErr lk ht rc ts gs)) ∧ Below W.heap.size W w') := Lib.hid (fun W q1 q2 => by rw [hM, hL]; exact checkGuard_any lk ht rc ts gs A1 A2 c1 c2 W q1 q2 (by omega) (by omega))
  have HSO : Hid (∀ W, Calls Tryz.prog 64 #[.slice A5 N c5, (.int .i64 6)] W fun r w' => r = .returned (.int .i64 (someErr ls.length 6)) ∧ Below W.heap.size W w') := Lib.hid (fun W => by rw [hN]; exact some_any A5 ls.length c5 6 W (by omega))
  have HAS : Hid (∀ W, Cells W A5 ls → Calls Tryz.prog 65 #[.slice A5 N c5, (.int .i64 (-2048)), (.int .i64 2048)] W fun r w' => r = .returned (.int .i64 (ascErr ls (-2048) 2048)) ∧ Below W.heap.size W w') := Lib.hid (fun W q => by rw [hN]; exact ascending_any A5 ls c5 (-2048) 2048 W q (by omega))
  have HFI : Hid (∀ (a b c d : Int) (W : World), Calls Tryz.prog 49 #[.slice (some ⟨W.heap.size, 0, none⟩) 4 4] (W.alloc (.cells #[(.int .i64 a), (.int .i64 b), (.int .i64 c), (.int .i64 d)] 27)) fun r w' => r = .returned (.int .i64 (firstOf [a, b, c, d])) ∧ (W.alloc (.cells #[(.int .i64 a), (.int .i64 b), (.int .i64 c), (.int .i64 d)] 27)) = w') := Lib.hid (fun a b c d W => first_cells [a, b, c, d] W (by simp))
  have HT := Lib.hid hT
  have HG := Lib.hid hG
  have HX := Lib.hid hX
  have HE : Hid (firstOf [guardErr lk ht rc ts gs, someErr ls.length 6, ascErr ls (-2048) 2048, rangeErr n 0 6] = loudErr lk ht rc ts gs ls n) := Lib.hid rfl
  obtain ⟨E, hE⟩ : ∃ E, E = loudErr lk ht rc ts gs ls n := ⟨_, rfl⟩
  obtain ⟨a, ha⟩ : ∃ a, a = guardErr lk ht rc ts gs := ⟨_, rfl⟩
  obtain ⟨b, hb⟩ : ∃ b, b = someErr ls.length 6 := ⟨_, rfl⟩
  obtain ⟨c, hc⟩ : ∃ c, c = ascErr ls (-2048) 2048 := ⟨_, rfl⟩
  rw [← hE] at HE he ⊢
  rw [← ha] at HE HCG
  rw [← hb] at HE HSO
  rw [← hc] at HE HAS
  clear hE ha hb hc hM hL hN hT hG hX h1 h2 h3
  go_enter Tryz.func33, Tryz.ntmps33
  go_wp2_with (first
    | (go_at_call 35; refine (HCG.out _ (HT.out.below (by (repeat (first | (with_reducible exact Below.refl _ _) | ((with_reducible refine Below.setCell ?_ ?_ _); rotate_left 1; focus (first | (simp; done) | (simp; omega) | (simp at *; omega))) | ((with_reducible refine Below.alloc ?_ ?_ _); rotate_left 1; focus (first | (simp; done) | (simp; omega) | (simp at *; omega))) | (with_reducible refine Below.drew ?_) | ((with_reducible refine Calm.step (by assumption) ?_ ?_); rotate_left 1; focus (first | (simp; done) | (simp; omega) | (simp at *; omega))))))) (HG.out.below (by (repeat (first | (with_reducible exact Below.refl _ _) | ((with_reducible refine Below.setCell ?_ ?_ _); rotate_left 1; focus (first | (simp; done) | (simp; omega) | (simp at *; omega))) | ((with_reducible refine Below.alloc ?_ ?_ _); rotate_left 1; focus (first | (simp; done) | (simp; omega) | (simp at *; omega))) | (with_reducible refine Below.drew ?_) | ((with_reducible refine Calm.step (by assumption) ?_ ?_); rotate_left 1; focus (first | (simp; done) | (simp; omega) | (simp at *; omega)))))))).mono ?_; rintro r w1 ⟨rfl, hb1⟩; have HB1 := Lib.hid (show Below w.heap.size w w1 from Below.trans (by (repeat (first | (with_reducible exact Below.refl _ _) | ((with_reducible refine Below.setCell ?_ ?_ _); rotate_left 1; focus (first | (simp; done) | (simp; omega) | (simp at *; omega))) | ((with_reducible refine Below.alloc ?_ ?_ _); rotate_left 1; focus (first | (simp; done) | (simp; omega) | (simp at *; omega))) | (with_reducible refine Below.drew ?_) | ((with_reducible refine Calm.step (by assumption) ?_ ?_); rotate_left 1; focus (first | (simp; done) | (simp; omega) | (simp at *; omega)))))) (hb1.mono (by simp))); clear hb1)
    | (go_at_call 64; refine (HSO.out _).mono ?_; rintro r w2 ⟨rfl, hb2⟩; have HB2 := Lib.hid (HB1.out.trans (hb2.mono HB1.out.size)); clear hb2)
    | (go_at_call 65; refine (HAS.out _ (HX.out.below HB2.out)).mono ?_; rintro r w3 ⟨rfl, hb3⟩; have HB3 := Lib.hid (HB2.out.trans (hb3.mono HB2.out.size)); clear hb3)
    | (go_at_call 66; refine (within_any _ _ _ _).mono ?_; rintro r w4 ⟨rfl, rfl⟩)
    | (go_at_call 49; refine (HFI.out _ _ _ _ _).mono ?_; rw [HE.out]; rintro r w5 ⟨rfl, rfl⟩))
  exact bodyPost_ret (v := .tuple #[.slice none 0 0, (.int .i64 E)]) (by simp [results, Tryz.results33, go_sem]) rfl ⟨rfl, HB3.out.alloc HB3.out.size _⟩

set_option maxHeartbeats 4000000 in
set_option maxRecDepth 100000 in
theorem Loudest_okc (lk ht rc : Int) (n : Nat) (ts gs ls : List Int) (A1 A2 A5 : Option Addr) (c1 c2 c5 M L N : Nat) (w : World) (hM : M = ts.length) (hL : L = gs.length) (hN : N = ls.length) (hLim : Lim w) (hV : Valid lk ht rc ts gs) (hT : Cells w A1 ts) (hG : Cells w A2 gs) (hX : Cells w A5 ls)
    (h3 : 1 ≤ N ∧ N ≤ 6) (hn : n ≤ 6) (hls : inB 2048 ls) (he : loudErr lk ht rc ts gs ls n = 0) :
    Calls Tryz.prog 33 #[.agg #[(.int .i64 lk), (.int .i64 ht), .slice A1 M c1, (.int .i64 rc), .slice A2 L c2], .slice A5 N c5, (.int .i64 n)] w fun r w' => (∃ B d, r = .returned (.tuple #[.slice B ((loudF lk ht rc ts gs ls n).getD []).length d, (.int .i64 (if (loudF lk ht rc ts gs ls n).isSome then 0 else 24))]) ∧ Cells w' B ((loudF lk ht rc ts gs ls n).getD []) ∧ ((loudF lk ht rc ts gs ls n).getD []).length ≤ d ∧ d ≤ maxLen) ∧ Below w.heap.size w w' := by
  have htl := hV.tl
  have hgl := hV.gl
  have HCG : Hid (∀ W, Cells W A1 ts → Cells W A2 gs → Calls Tryz.prog 35 #[.agg #[(.int .i64 lk), (.int .i64 ht), .slice A1 M c1, (.int .i64 rc), .slice A2 L c2]] W fun r w' => r = .returned (.int .i64 (guardErr lk ht rc ts gs)) ∧ Below W.heap.size W w') := Lib.hid (fun W q1 q2 => by rw [hM, hL]; exact checkGuard_any lk ht rc ts gs A1 A2 c1 c2 W q1 q2 (by omega) (by omega))
  have HSO : Hid (∀ W, Calls Tryz.prog 64 #[.slice A5 N c5, (.int .i64 6)] W fun r w' => r = .returned (.int .i64 (someErr ls.length 6)) ∧ Below W.heap.size W w') := Lib.hid (fun W => by rw [hN]; exact some_any A5 ls.length c5 6 W (by omega))
  have HAS : Hid (∀ W, Cells W A5 ls → Calls Tryz.prog 65 #[.slice A5 N c5, (.int .i64 (-2048)), (.int .i64 2048)] W fun r w' => r = .returned (.int .i64 (ascErr ls (-2048) 2048)) ∧ Below W.heap.size W w') := Lib.hid (fun W q => by rw [hN]; exact ascending_any A5 ls c5 (-2048) 2048 W q (by omega))
  have HFI : Hid (∀ (a b c d : Int) (W : World), Calls Tryz.prog 49 #[.slice (some ⟨W.heap.size, 0, none⟩) 4 4] (W.alloc (.cells #[(.int .i64 a), (.int .i64 b), (.int .i64 c), (.int .i64 d)] 27)) fun r w' => r = .returned (.int .i64 (firstOf [a, b, c, d])) ∧ (W.alloc (.cells #[(.int .i64 a), (.int .i64 b), (.int .i64 c), (.int .i64 d)] 27)) = w') := Lib.hid (fun a b c d W => first_cells [a, b, c, d] W (by simp))
  have HRS : Hid (∀ W, Calls Tryz.prog 55 #[.agg #[(.int .i64 lk), (.int .i64 ht), .slice A1 M c1, (.int .i64 rc), .slice A2 L c2]] W fun r w' => (∃ B, W.heap.size ≤ B.block ∧ r = .returned (.agg #[(.int .i64 ((restS ts gs).h)), (.int .i64 (((restS ts gs).lv : Int))), .slice (some B) (M - 1) (M - 1)]) ∧ Cells w' (some B) (restS ts gs).ps) ∧ Below W.heap.size W w') := Lib.hid (fun W => by
    rw [hM, hL]
    exact rest_any lk ht rc A1 A2 ts.length c1 gs.length c2 W (by omega) (by omega))
  have HVI : Hid (∀ sb, sb ≠ 0 → Off sb A1 → Off sb A5 → VisC lk ht rc ts gs ls A1 A2 A5 M L (M - 1) N c1 c2 c5 sb n) := Lib.hid (fun sb q1 q2 q3 => visit_any lk ht rc ts gs ls A1 A2 A5 M L (M - 1) N c1 c2 c5 sb hM (by omega) hN (by omega) hV hls q1 q2 q3 n)
  have HGD : Hid (Good ht rc ts gs (restS ts gs)) := Lib.hid (rest_good hV)
  have hb1 : ∃ p, A1 = some p ∧ p.block < w.heap.size := by
    obtain ⟨b, o, e, h, _⟩ := hT (by omega)
    exact ⟨_, e, h⟩
  have hb5 : ∃ p, A5 = some p ∧ p.block < w.heap.size := by
    obtain ⟨b, o, e, h, _⟩ := hX (by omega)
    exact ⟨_, e, h⟩
  have HO1 : Hid (∀ sb, w.heap.size ≤ sb → Off sb A1) := Lib.hid (fun sb h p hp => by
    obtain ⟨p', e, h'⟩ := hb1
    rw [hp] at e; cases e; omega)
  have HO5 : Hid (∀ sb, w.heap.size ≤ sb → Off sb A5) := Lib.hid (fun sb h p hp => by
    obtain ⟨p', e, h'⟩ := hb5
    rw [hp] at e; cases e; omega)
  have HT := Lib.hid hT
  have HG := Lib.hid hG
  have HX := Lib.hid hX
  have HLI := Lib.hid hLim
  have HFF : Hid (loudF lk ht rc ts gs ls n = visF lk ht rc ts ls n [] (restS ts gs) none) := Lib.hid rfl
  have HE : Hid (firstOf [guardErr lk ht rc ts gs, someErr ls.length 6, ascErr ls (-2048) 2048, rangeErr n 0 6] = 0) := Lib.hid he
  obtain ⟨a, ha⟩ : ∃ a, a = guardErr lk ht rc ts gs := ⟨_, rfl⟩
  obtain ⟨b, hb⟩ : ∃ b, b = someErr ls.length 6 := ⟨_, rfl⟩
  obtain ⟨c, hc⟩ : ∃ c, c = ascErr ls (-2048) 2048 := ⟨_, rfl⟩
  obtain ⟨F, hF⟩ : ∃ F, F = loudF lk ht rc ts gs ls n := ⟨_, rfl⟩
  obtain ⟨R, hR⟩ : ∃ R, R = restS ts gs := ⟨_, rfl⟩
  rw [← hF] at HFF ⊢
  rw [← hR] at HFF HRS HGD
  rw [← ha] at HE HCG
  rw [← hb] at HE HSO
  rw [← hc] at HE HAS
  have hGl := hLim.lt
  obtain ⟨FS, hFS⟩ : ∃ FS, FS = F.isSome := ⟨_, rfl⟩
  obtain ⟨FL, hFL⟩ : ∃ FL, FL = F.getD [] := ⟨_, rfl⟩
  have HFS := Lib.hid hFS.symm
  have HFL := Lib.hid hFL.symm
  rw [← hFS, ← hFL]
  have hfin : (if FS then (0 : Int) else 24) = if (!FS) then 24 else 0 := by cases FS <;> rfl
  rw [hfin]
  obtain ⟨EF, hEF⟩ : ∃ EF : Int, EF = if (!FS) then 24 else 0 := ⟨_, rfl⟩
  rw [← hEF]
  have HEF := Lib.hid hEF
  have HWH : Hid (∀ W, Calls Tryz.prog 68 #[.bool (!FS), (.int .i64 24)] W fun r w' => r = .returned (.int .i64 EF) ∧ Below W.heap.size W w') := Lib.hid (fun W => (when_any (!FS) 24 W).mono (fun e w' h => ⟨h.1.trans (by rw [HEF.out]), h.2 ▸ Below.refl _ _⟩))
  obtain ⟨NF, hNF⟩ : ∃ NF, NF = FL.length := ⟨_, rfl⟩
  rw [← hNF]
  have HNF := Lib.hid hNF.symm
  clear hFS hFL hfin hEF hNF
  clear hF hR ha hb hc hM hL hN hT hG hX hLim hV hls he htl hgl hb1 hb5
  go_enter Tryz.func33, Tryz.ntmps33
  go_wp2_with (first
    | (go_at_call 35; refine (HCG.out _ (HT.out.below (by (repeat (first | (with_reducible exact Below.refl _ _) | ((with_reducible refine Below.setCell ?_ ?_ _); rotate_left 1; focus (first | (simp; done) | (simp; omega) | (simp at *; omega))) | ((with_reducible refine Below.alloc ?_ ?_ _); rotate_left 1; focus (first | (simp; done) | (simp; omega) | (simp at *; omega))) | (with_reducible refine Below.drew ?_) | ((with_reducible refine Calm.step (by assumption) ?_ ?_); rotate_left 1; focus (first | (simp; done) | (simp; omega) | (simp at *; omega))))))) (HG.out.below (by (repeat (first | (with_reducible exact Below.refl _ _) | ((with_reducible refine Below.setCell ?_ ?_ _); rotate_left 1; focus (first | (simp; done) | (simp; omega) | (simp at *; omega))) | ((with_reducible refine Below.alloc ?_ ?_ _); rotate_left 1; focus (first | (simp; done) | (simp; omega) | (simp at *; omega))) | (with_reducible refine Below.drew ?_) | ((with_reducible refine Calm.step (by assumption) ?_ ?_); rotate_left 1; focus (first | (simp; done) | (simp; omega) | (simp at *; omega)))))))).mono ?_; rintro r w1 ⟨rfl, hb1⟩; have HB1 := Lib.hid (show Below w.heap.size w w1 from Below.trans (by (repeat (first | (with_reducible exact Below.refl _ _) | ((with_reducible refine Below.setCell ?_ ?_ _); rotate_left 1; focus (first | (simp; done) | (simp; omega) | (simp at *; omega))) | ((with_reducible refine Below.alloc ?_ ?_ _); rotate_left 1; focus (first | (simp; done) | (simp; omega) | (simp at *; omega))) | (with_reducible refine Below.drew ?_) | ((with_reducible refine Calm.step (by assumption) ?_ ?_); rotate_left 1; focus (first | (simp; done) | (simp; omega) | (simp at *; omega)))))) (hb1.mono (by simp))); have K1 := Lib.hid (show Blk w1 w.heap.size #[(.int .i64 lk), (.int .i64 ht), .slice A1 M c1, (.int .i64 rc), .slice A2 L c2] from Blk.below (by (repeat (first | ((with_reducible refine Blk.at_ ?_); focus (first | rfl | (simp; done) | (simp; omega))) | (with_reducible refine Blk.alloc ?_ _) | (with_reducible refine Blk.below ?_ (by with_reducible assumption)) | (with_reducible refine Blk.drew ?_)))) hb1); clear hb1)
    | (go_at_call 64; refine (HSO.out _).mono ?_; rintro r w2 ⟨rfl, hb2⟩; have HB2 := Lib.hid (HB1.out.trans (hb2.mono HB1.out.size)); have K2 := Lib.hid (K1.out.below hb2); clear hb2)
    | (go_at_call 65; refine (HAS.out _ (HX.out.below HB2.out)).mono ?_; rintro r w3 ⟨rfl, hb3⟩; have HB3 := Lib.hid (HB2.out.trans (hb3.mono HB2.out.size)); have K3 := K2.out.below hb3; obtain ⟨c00, c01, c02, c03, c04, l0, f0⟩ := K3.o5; have hz3 : w.heap.size ≤ w3.heap.size := HB3.out.size; have HK3 := Lib.hid K3; clear hb3 K3)
    | (go_at_call 66; refine (within_any _ _ _ _).mono ?_; rintro r w4 ⟨rfl, rfl⟩)
    | (go_at_call 49; refine (HFI.out _ _ _ _ _).mono ?_; rw [HE.out]; rintro r w5 ⟨rfl, rfl⟩)
    | (go_at_call 55; refine (HRS.out _).mono ?_; rintro r w6 ⟨⟨B, hBb, rfl, hC6⟩, hb6⟩; refine Hid.out ?_))
  simp only [World.size_alloc] at hBb
  have KS6 : Blk w6 (w3.heap.size + 1) #[(.int .i64 lk), (.int .i64 ht), .slice A1 M c1, (.int .i64 rc), .slice A2 L c2, .slice A5 N c5, .slice none 0 0, (.int .i64 0), .bool false] := Blk.below (show Blk _ (w3.heap.size + 1) #[(.int .i64 lk), (.int .i64 ht), .slice A1 M c1, (.int .i64 rc), .slice A2 L c2, .slice A5 N c5, .slice none 0 0, (.int .i64 0), .bool false] from by (repeat (first | ((with_reducible refine Blk.at_ ?_); focus (first | rfl | (simp; done) | (simp; omega))) | (with_reducible refine Blk.alloc ?_ _) | (with_reducible refine Blk.below ?_ (by with_reducible assumption)) | (with_reducible refine Blk.drew ?_)))) hb6
  have HSB6 : Hid (SB lk ht rc A1 A2 A5 M c1 L c2 N c5 (w3.heap.size + 1) none w6) := Lib.hid ⟨none, 0, KS6, fun h => absurd h (by simp), (fun p hp => by cases hp), Nat.le_refl _, Nat.zero_le _⟩
  have HB6 : Hid (Below w.heap.size w w6) := Lib.hid ((HB3.out.trans (by (repeat (first | (with_reducible exact Below.refl _ _) | ((with_reducible refine Below.setCell ?_ ?_ _); rotate_left 1; focus (first | (simp; done) | (simp; omega) | (simp at *; omega))) | ((with_reducible refine Below.alloc ?_ ?_ _); rotate_left 1; focus (first | (simp; done) | (simp; omega) | (simp at *; omega))) | (with_reducible refine Below.drew ?_) | ((with_reducible refine Calm.step (by assumption) ?_ ?_); rotate_left 1; focus (first | (simp; done) | (simp; omega) | (simp at *; omega))))))).trans (hb6.mono (by simp; omega)))
  have hs6 := hb6.size
  simp only [World.size_alloc] at hs6
  have HC6 := Lib.hid hC6
  clear hb6 hC6 KS6 c00 c01 c02 c03 c04 l0 f0 HB1 HB2 K1 K2 HCG HSO HAS HFI HRS HE HK3
  unfold Hid
  go_wp2_with (go_at_call 67; refine (HVI.out (w3.heap.size + 1) (by omega) (HO1.out _ (by omega)) (HO5.out _ (by omega)) [] R none (some B) none 0 (M - 1) 0 w6 rfl (by omega) HGD.out (fun x hx => by cases hx) (fun h => absurd h (by simp)) HC6.out (HT.out.below HB6.out) (HX.out.below HB6.out) (HLI.out.below HB6.out) HSB6.out (fun p hp => by cases hp) (fun p hp => by cases hp; omega)).mono ?_; rw [← HFF.out]; rintro r w7 ⟨rfl, hs7, hb7⟩; refine Hid.out ?_)
  obtain ⟨B7, d7, K7, hC7, hO7⟩ := hs7
  have HB7 := Lib.hid (HB6.out.trans (hb7.below (by omega) HB6.out.size))
  have HC7 := Lib.hid hC7
  have hrm := hO7.2
  have hz7 := HB7.out.size
  obtain ⟨c00, c01, c02, c03, c04, c05, c06, c07, c08, l0, f0⟩ := K7.o9
  rw [HFS.out] at c08
  rw [HFL.out] at c06 c07 HC7
  rw [HNF.out] at c06
  rw [HFL.out, HNF.out] at hrm
  have HRM := Lib.hid hrm
  clear hrm hO7 hb7 hC7 K7 HSB6 HVI HFF HFS HFL HB6
  unfold Hid
  go_wp2
  refine Rel.region3 10 (by kernel_rfl) (by kernel_rfl) (by kernel_rfl) ?_
  simp only [List.take_succ_cons, List.take_zero, List.drop_succ_cons, List.drop_zero, List.filterMap_cons, List.filterMap_nil]
  iterate 9 (apply Rel.op3; (focus (first | exact Rel.gno rfl | exact Rel.gyes _ true _ rfl rfl rfl | exact Rel.gyes _ false _ rfl rfl rfl)); (focus (intro a W hb hd hbase; obtain ⟨hc, hf⟩ := bcell hb; clear hb hf; simp [Rel.deps, Rel.dep1, Rel.ons, Region.binds, Act.eval] at hd; simp only [Act.eval, List.mem_cons, List.not_mem_nil, not_or, and_imp, or_false, Array.getD_eq_getD_getElem?] at hbase; go_simp; (try go_bits); (try rfl); done)); (try simp only [List.nil_append, List.cons_append]))
  (apply Rel.call3; (focus (first | exact Rel.gno rfl | exact Rel.gyes _ true _ rfl rfl rfl | exact Rel.gyes _ false _ rfl rfl rfl)); (focus (intro a W hb hd hbase; obtain ⟨hc, hf⟩ := bcell hb; clear hb hf; simp [Rel.deps, Rel.dep1, Rel.ons, Region.binds, Act.eval] at hd; simp only [Act.eval, List.mem_cons, List.not_mem_nil, not_or, and_imp, or_false, Array.getD_eq_getD_getElem?] at hbase; go_simp; refine ⟨?_, ?_⟩; rfl; rfl)); (focus (intro W hb; go_at_call 68; exact (HWH.out W))); (try simp only [List.nil_append, List.cons_append]))
  refine Rel.done3 ?_
  intro x w8 hb8 hx
  simp only [Rel.facts, Nat.zero_add, Nat.reduceAdd] at hx
  obtain ⟨e0, e1, e2, e3, e4, e5, e6, e7, e8, e9, _⟩ := hx
  simp only [Rel.fill, Nat.zero_add, Nat.reduceAdd, e0, e1, e2, e3, e4, e5, e6, e7, e8, e9]
  simp only [Act.put, List.setIfInBounds_toArray, List.set_cons_zero, List.set_cons_succ]
  clear e0 e1 e2 e3 e4 e5 e6 e7 e8 e9
  have HB8 := Lib.hid (HB7.out.trans (hb8.mono HB7.out.size))
  have HC8 := Lib.hid (HC7.out.below hb8)
  clear hb8 c00 c01 c02 c03 c04 c05 c06 c07 c08 l0 f0
  go_wp2
  exact bodyPost_ret (v := .tuple #[.slice B7 NF d7, (.int .i64 EF)]) (by simp [results, Tryz.results33, go_sem]) rfl (by first | exact ⟨⟨B7, d7, rfl, HC8.out, HRM.out⟩, HB8.out⟩ | exact ⟨⟨B7, ⟨d7, rfl, HC8.out, HRM.out⟩⟩, HB8.out⟩)
theorem Loudest_ok (lk ht rc : Int) (n : Nat) (ts gs ls : List Int) (A1 A2 A5 : Option Addr) (c1 c2 c5 M L N : Nat) (w : World) (hM : M = ts.length) (hL : L = gs.length) (hN : N = ls.length) (hLim : Lim w) (hV : Valid lk ht rc ts gs) (hT : Cells w A1 ts) (hG : Cells w A2 gs) (hX : Cells w A5 ls)
    (h3 : 1 ≤ N ∧ N ≤ 6) (hn : n ≤ 6) (hls : inB 2048 ls) (he : loudErr lk ht rc ts gs ls n = 0) :
    Calls Tryz.prog 33 #[.agg #[(.int .i64 lk), (.int .i64 ht), .slice A1 M c1, (.int .i64 rc), .slice A2 L c2], .slice A5 N c5, (.int .i64 n)] w fun r w' => (∃ B d, r = .returned (.tuple #[.slice B ((loudF lk ht rc ts gs ls n).getD []).length d, (.int .i64 (if (loudF lk ht rc ts gs ls n).isSome then 0 else 24))]) ∧ Cells w' B ((loudF lk ht rc ts gs ls n).getD [])) ∧ Below w.heap.size w w' :=
  (Loudest_okc lk ht rc n ts gs ls A1 A2 A5 c1 c2 c5 M L N w hM hL hN hLim hV hT hG hX h3 hn hls he).mono fun e W' ⟨⟨B, d, h, hc, _⟩, hb⟩ => ⟨⟨B, d, h, hc⟩, hb⟩
end Go.Proofs.YtdeapbihbhoefaaGreatDoor
