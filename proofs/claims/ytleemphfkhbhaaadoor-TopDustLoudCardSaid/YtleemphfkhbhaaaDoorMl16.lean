/- Part 16 of the texts of the claim: VR, V3, V4, LdRow. -/
import Derived.Test.YtleemphfkhbhaaaDoorMl15
import Derived.Test.YtleemphfkhbhaaaDoorMl6

/- A number laid into its place: the statement of TopDustLoud, taken out of the translation. -/
namespace Go.Proofs.YtleemphfkhbhaaaDoor
open Go.RowKit
open Calm (bcell Blk)

theorem sigErr_zero {xs : List Int} (h : sigErr xs = 0) : xs.length ≤ 4096 ∧ inB 2048 xs := by
  have h2 := firstOf_eq_zero.1 h
  refine ⟨?_, fun n hn => ?_⟩
  · have := h2 (if 4096 < xs.length then 5 else 0) (by simp)
    split at this
    · simp at this
    · omega
  · exact eachErr_zero.1 (h2 (eachErr xs (-2048) 2048) (by simp)) n hn
/-- an append of nothing. -/
theorem run_app_none (W : World) (t ty e : TypeId) (i : TypeInfo) (ht : Tryd.prog.underlying t = some (.slice e)) (hi : Tryd.prog.info? e = some i) (b : Addr) (n cap : Nat) (hle : n ≤ cap) (A : Option Addr) (c : Nat) :
    (Builtin.append_ #[t, t] ty #[.slice (some b) n cap, .slice A 0 c]).run Tryd.prog W = .ok (.slice (some b) n cap) W := by
  have hl : ∀ (x : Addr), (loadCells x 0).run Tryd.prog W = .ok #[] W := fun x => by simpa using run_loadCells_list (P := Tryd.prog) W x [] (by simp)
  cases A <;> simp [Builtin.append_, run_underlying ht, sizeOf, typeInfo, hi, Builtin.lenOf, Builtin.firstCells, storeCells, hl, hle]
/-- the first places of a row are a row. -/
theorem ownsRow_pre {W : World} {B e n g cap : Nat} {xs : List Value} (h : W.ownsRow B e 1 (.slice (some ⟨g, 0, none⟩) n cap) n xs) {k : Nat} (hk : k ≤ n) : W.ownsRow B e 1 (.slice (some ⟨g, 0, none⟩) k cap) k (xs.take k) := by
  have h1 := h.1
  rcases h.2 with ⟨h2, _⟩ | ⟨g', cap', cur, e1, h2, h3, h4, h5, h6, h7⟩
  · cases h2
  · cases e1
    refine ⟨by simp; omega, .inr ⟨g, cap, cur, rfl, h2, h3, by omega, h5, h6, ?_⟩⟩
    rw [← h7, List.take_take]
    congr 1
    omega
namespace Rel
variable {P : Program} {DS : List Tmp} {w0 : World} {a0 : Act} {T : Ctx → Prop} {Γ : Ctx} {o : Oper} {rest : List Oper}
/-- An append of whose result R is known; nothing that lay turns. -/
theorem appR3 (R : Know) (hs : Stable R) (s y : Operand) (t : TypeId) (hop : o.op = .call { callee := .builtin .append, args := #[s, y], argTypes := #[t, t] }) (hg : GOK3 Γ o)
    (h : ∀ (a : Act) (W : World), Below w0.heap.size w0 W → deps Γ a W (ons o) → (∀ t, t ∉ DS → a.eval (.tmp t) = a0.eval (.tmp t)) → ∃ v W', (Builtin.append_ #[t, t] o.type #[a.eval s, a.eval y]).run P W = .ok v W' ∧ R v W' ∧ Below W.heap.size W W')
    (hn : walk3 P DS w0 a0 T (Γ ++ [(o.dst, R)]) rest) : walk3 P DS w0 a0 T Γ (o :: rest) :=
  ⟨R, hs, hg, fun a W hb hd hbase K Q hK => by
    obtain ⟨v, W', hrun, hR, hS⟩ := h a W hb hd hbase
    unfold Oper.wp
    simp [execOp, hop, resolve, invoke, builtin, hrun, Result.andThen]
    exact hK v W' hR hS, hn⟩
/-- One operation that yields a value of which R is known; nothing that lay turns. -/
theorem opN3 (R : Know) (hs : Stable R) (hg : GOK3 Γ o)
    (h : ∀ (a : Act) (W : World), Below w0.heap.size w0 W → deps Γ a W (ons o) → (∀ t, t ∉ DS → a.eval (.tmp t) = a0.eval (.tmp t)) → ∃ v W', (execOp a.eval o).run P W = .ok (.value v) W' ∧ R v W' ∧ Below W.heap.size W W')
    (hn : walk3 P DS w0 a0 T (Γ ++ [(o.dst, R)]) rest) : walk3 P DS w0 a0 T Γ (o :: rest) :=
  ⟨R, hs, hg, fun a W hb hd hbase K Q hK => by
    obtain ⟨v, W', hrun, hR, hS⟩ := h a W hb hd hbase
    unfold Oper.wp
    rw [hrun]
    exact hK v W' hR hS, hn⟩
end Rel
/-- a region of a code, by its number. -/
def regAt : Nat → Code → Option Code
  | k, .region id ops d => if id = k then some (.region id ops d) else none
  | k, .seq a b => (regAt k a).or (regAt k b)
  | k, .block _ c => regAt k c
  | k, .scope c => regAt k c
  | k, .loop c => regAt k c
  | k, .cond _ a b => (regAt k a).or (regAt k b)
  | _, _ => none
noncomputable def dustReg : Code := (Tryd.f4.body.bind (regAt 18)).getD .skip
theorem sl_low (g m cap J : Nat) (h1 : J ≤ m) (h2 : m ≤ cap) (W : World) : Sem.run Tryd.prog (Instr.slice 22 (.slice (some ⟨g, 0, none⟩) m cap) none (some (.int .i64 ((J : Int)))) none) W = .ok (.slice (some ⟨g, 0, none⟩) J cap) W := by
  have ht : Tryd.prog.underlying 22 = some (.slice 3) := Tryd.underlying22
  obtain ⟨i0, hi, hz0, hz1, hz2⟩ := info_parts Tryd.infoI
  have h3 : (J : Int) ≤ (cap : Int) := by omega
  have h4 : J ≤ cap := by omega
  have h5 : (0 : Int) ≤ (J : Int) := by omega
  simp [Instr.slice, run_underlying ht, Instr.sliceBounds, sizeOf, typeInfo, hi, Addr.add, asIntOf, Instr.sliceBound, h1, h2, h3, h4, h5]
theorem sl_high (g m cap J : Nat) (h1 : J ≤ m) (h2 : m ≤ cap) (W : World) : Sem.run Tryd.prog (Instr.slice 22 (.slice (some ⟨g, 0, none⟩) m cap) (some (.int .i64 ((J : Int)))) none none) W = .ok (.slice (some (if cap = J then ⟨g, 0, none⟩ else ⟨g, J, none⟩)) (m - J) (cap - J)) W := by
  have ht : Tryd.prog.underlying 22 = some (.slice 3) := Tryd.underlying22
  obtain ⟨i0, hi, hz0, hz1, hz2⟩ := info_parts Tryd.infoI
  have h3 : (J : Int) ≤ (m : Int) := by omega
  have h5 : (0 : Int) ≤ (J : Int) := by omega
  simp [Instr.slice, run_underlying ht, Instr.sliceBounds, sizeOf, typeInfo, hi, hz1, Addr.add, asIntOf, Instr.sliceBound, h1, h2, h3, h5]
  split <;> (simp [*] <;> omega)

set_option maxRecDepth 100000 in
set_option maxHeartbeats 4000000 in
theorem ins_region (LV : List Int) (X : Int) (B g m cap J : Nat) (w : World) (a : Act) (Q : Exit → Act → World → Prop) (hsz : a.tmps.size = 196) (h10 : a.tmps[10]?.getD undef = .slice (some ⟨g, 0, none⟩) m cap) (h13 : a.tmps[13]?.getD undef = (.int .i64 ((J : Int)))) (h12 : a.tmps[12]?.getD undef = (.int .i64 (X)))
    (hown : w.ownsRow B 3 1 (.slice (some ⟨g, 0, none⟩) m cap) m (LV.map (Value.int .i64))) (hm : m = LV.length) (hJ : J ≤ m) (hcap : m ≤ cap) (hm5 : m ≤ 5) (hm1 : 1 ≤ m) (hB : B ≤ w.heap.size)
    (h : ∀ (y8 y1 y2 v' : Value) (W' : World), W'.ownsRow B 3 1 v' (m + 1) ((LV.take J ++ X :: LV.drop J).map (Value.int .i64)) → Below B w W' →
      Q .normal (((((((((((a.put (some 114) (.slice (some ⟨g, 0, none⟩) m cap)).put (some 115) (.int .i64 ((J : Int)))).put (some 116) (.slice (some ⟨g, 0, none⟩) J cap)).put (some 117) (.int .i64 (X))).put (some 118) y8).put (some 119) (.slice (some ⟨g, 0, none⟩) m cap)).put (some 120) (.int .i64 ((J : Int)))).put (some 121) y1).put (some 122) y2).put (some 123) v').put (some 10) v') W') :
    dustReg.wp Tryd.prog Q a w := by
  conv => arg 2; whnf
  have HOWN := Lib.hid hown
  have HM := Lib.hid hm
  obtain ⟨i1, hi1, jz0, jz1, jz2⟩ := info_parts Tryd.infoI
  have HSZ := Lib.hid hsz
  clear hown hm hsz
  refine Rel.region3 9 (by kernel_rfl) (by kernel_rfl) (by rw [HSZ.out]; kernel_rfl) ?_
  simp only [List.take_succ_cons, List.take_zero, List.drop_succ_cons, List.drop_zero, List.filterMap_cons, List.filterMap_nil]
  iterate 2 (apply Rel.op3; (focus (first | exact Rel.gno rfl | exact Rel.gyes _ true _ rfl rfl rfl | exact Rel.gyes _ false _ rfl rfl rfl)); (focus (intro a W hb hd hbase; obtain ⟨hc, hf⟩ := bcell hb; clear hb hf; simp [Rel.deps, Rel.dep1, Rel.ons, Region.binds, Act.eval] at hd; simp only [Act.eval, List.mem_cons, List.not_mem_nil, not_or, and_imp, or_false, Array.getD_eq_getD_getElem?] at hbase; go_simp; (try go_bits); (try rfl); done)); (try simp only [List.nil_append, List.cons_append]))
  have hsl := sl_low g m cap J hJ hcap
  iterate 2 (apply Rel.op3; (focus (first | exact Rel.gno rfl | exact Rel.gyes _ true _ rfl rfl rfl | exact Rel.gyes _ false _ rfl rfl rfl)); (focus (intro a W hb hd hbase; obtain ⟨hc, hf⟩ := bcell hb; clear hb hf; simp [Rel.deps, Rel.dep1, Rel.ons, Region.binds, Act.eval] at hd; simp only [Act.eval, List.mem_cons, List.not_mem_nil, not_or, and_imp, or_false, Array.getD_eq_getD_getElem?] at hbase; go_simp; (try go_bits); (try rfl); done)); (try simp only [List.nil_append, List.cons_append]))
  refine Rel.opN3 (fun u W => ∃ g1, u = .slice (some ⟨g1, 0, none⟩) 1 1 ∧ w.heap.size ≤ g1 ∧ W.heap[g1]? = some (.cells #[(.int .i64 (X))] 3 (0, 0))) (fun u W W' h hb => by
    obtain ⟨g1, h1, h2, h3⟩ := h
    exact ⟨g1, h1, h2, (hb.block g1 (Array.getElem?_eq_some_iff.1 h3).1).trans h3⟩) (Rel.gno rfl) ?_ ?_
  · intro a W hb hd hbase
    simp [Rel.deps, Rel.dep1, Rel.ons, Region.binds, Act.eval] at hd
    refine ⟨.slice (some ⟨W.heap.size, 0, none⟩) 1 1, W.alloc (.cells #[(.int .i64 (X))] 3), ?_, ⟨_, rfl, hb.size, heap_new rfl⟩, (Below.refl _ _).alloc (Nat.le_refl _) _⟩
    go_simp
    (first | done | rfl | (refine ⟨?_, ?_⟩ <;> rfl))
  (try simp only [List.nil_append, List.cons_append])
  clear hsl
  have hsl := sl_high g m cap J hJ hcap
  obtain ⟨AT, hAT⟩ : ∃ AT : Addr, AT = (if cap = J then ⟨g, 0, none⟩ else ⟨g, J, none⟩) := ⟨_, rfl⟩
  rw [← hAT] at hsl
  have HAT : Hid (0 < m - J → AT = ⟨g, J, none⟩) := Lib.hid (fun h => by rw [hAT, if_neg (by omega)])
  clear hAT
  iterate 3 (apply Rel.op3; (focus (first | exact Rel.gno rfl | exact Rel.gyes _ true _ rfl rfl rfl | exact Rel.gyes _ false _ rfl rfl rfl)); (focus (intro a W hb hd hbase; obtain ⟨hc, hf⟩ := bcell hb; clear hb hf; simp [Rel.deps, Rel.dep1, Rel.ons, Region.binds, Act.eval] at hd; simp only [Act.eval, List.mem_cons, List.not_mem_nil, not_or, and_imp, or_false, Array.getD_eq_getD_getElem?] at hbase; go_simp; (try go_bits); (try rfl); done)); (try simp only [List.nil_append, List.cons_append]))
  refine Rel.appR3 (Rel.OwnS w.heap.size 3 1 (1 + (m - J)) ((.int .i64 (X)) :: (LV.drop J).map (Value.int .i64))) (Rel.stable_ownS _ _ _ _ _) (.tmp 118) (.tmp 121) 22 rfl (Rel.gno rfl) ?_ ?_
  · intro a W hb hd hbase
    simp [Rel.deps, Rel.dep1, Rel.ons, Region.binds] at hd
    obtain ⟨⟨g1, h1, h2, h3⟩, h4⟩ := hd
    rw [h1, h4]
    have hrow : W.ownsRow w.heap.size 3 1 (.slice (some ⟨g1, 0, none⟩) 1 1) 1 [(.int .i64 (X))] := ⟨rfl, .inr ⟨g1, 1, #[(.int .i64 (X))], rfl, h2, h3, Nat.le_refl _, by decide, rfl, rfl⟩⟩
    rcases Nat.eq_zero_or_pos (m - J) with h0 | h0
    · rw [h0]
      refine ⟨_, W, run_app_none W _ _ 3 i1 Tryd.underlying22 hi1 ⟨g1, 0, none⟩ 1 1 (Nat.le_refl _) (some AT) _, ?_, Below.refl _ _⟩
      have e : LV.drop J = [] := List.drop_eq_nil_of_le (by rw [← HM.out]; omega)
      rw [e]
      exact hrow
    · rw [HAT.out h0]
      obtain ⟨B', c', e1, _, h6⟩ := own_ints HOWN.out HM.out
      cases e1
      obtain ⟨b', o', e2, h7, h8⟩ := (h6.below hb) (by rw [← HM.out]; omega)
      cases e2
      obtain ⟨v', w', r1, r2, r3⟩ := run_append_arg_grows (P := Tryd.prog) W 22 22 3 i1 _ 1 8 Tryd.underlying22 hi1 jz0 jz1 jz2 rfl (by decide) ⟨g1, 0, none⟩ 1 1 [(.int .i64 (X))] rfl (fun j v hj => by
          match j, hj with
          | 0, hj => simp at hj; subst hj; rw [show (⟨g1, 0, none⟩ : Addr).add 0 = ⟨g1, 0, none⟩ from rfl, cell_of_row W g1 0 _ _ _ h3]; rfl)
        ⟨g, J, none⟩ (m - J) (cap - J) ((LV.drop J).map (Value.int .i64)) (by simp; have := HM.out; omega) (fun j v hj => by
          have hj2 : J + j < LV.length := by
            have := (List.getElem?_eq_some_iff.1 hj).1
            simp at this; omega
          have h9 := h8 (J + j) hj2
          rw [List.getElem?_map, List.getElem?_drop, List.getElem?_eq_getElem hj2] at hj
          simp at hj
          subst hj
          rw [Nat.zero_add, List.getD_eq_getElem?_getD, List.getElem?_eq_getElem hj2] at h9
          rw [WideShapes.add_plain]
          exact h9) (by omega) (by unfold maxLen; omega) (by omega)
      refine ⟨v', w', r1, ?_, (Below.refl W.heap.size W).grown r3 (Nat.le_refl _) (fun k hk => by cases hk)⟩
      exact ownsRow_base r2 hb.size
  (try simp only [List.nil_append, List.cons_append])
  refine Rel.done3 ?_
  intro x w5 hb5 hx
  simp only [Rel.facts, Nat.zero_add, Nat.reduceAdd] at hx
  obtain ⟨e0, e1, e2, e3, -, e5, e6, e7, e8, _⟩ := hx
  simp only [Rel.fill, Nat.zero_add, Nat.reduceAdd, e0, e1, e2, e3, e5, e6]
  obtain ⟨A8, c8, e8', hge8, hc8⟩ := own_ints (zs := X :: LV.drop J) e8 (by simp; have := HM.out; omega)
  obtain ⟨b8, o8, eA, hl8, hcc8⟩ := hc8 (by simp)
  subst eA
  rw [e7, e8']
  have hpre := ownsRow_pre (ownsRow_below HOWN.out hb5) hJ
  have HPRE := Lib.hid hpre
  have HC8 := Lib.hid hcc8
  have HB5 := Lib.hid hb5
  have hz5 := hb5.size
  clear e0 e1 e2 e3 e5 e6 e7 e8 e8' hpre hcc8 hc8 hb5 hsl
  refine wpList_append_own (P := Tryd.prog) w5 rfl (.tmp 116) (.tmp 122) 22 rfl B 3 i1 _ 1 8 Tryd.underlying22 hi1 jz0 jz1 jz2 rfl (by decide) (.slice (some ⟨g, 0, none⟩) J cap) J _ ?hs HPRE.out ⟨b8, o8, none⟩ (1 + (m - J)) c8 ((X :: LV.drop J).map (Value.int .i64)) ?hx (by simp; have := HM.out; omega) (fun j v hj => cells_src HC8.out j v hj) (by intro u hu; obtain ⟨z, _, rfl⟩ := List.mem_map.1 hu; rfl) (by unfold maxLen; omega) (by omega) (by omega) ?_
  case hs => simp [Act.eval, Act.put, Array.getElem?_setIfInBounds, HSZ.out]
  case hx => simp [Act.eval, Act.put, Array.getElem?_setIfInBounds, HSZ.out]
  intro v' w7 r1 r2 _
  have hrow : w7.ownsRow B 3 1 v' (m + 1) ((LV.take J ++ X :: LV.drop J).map (Value.int .i64)) := by
    rw [show J + (1 + (m - J)) = m + 1 by omega] at r1
    rw [List.map_append, List.map_take]
    exact r1
  have hbel : Below B w w7 := (HB5.out.mono hB).grown r2 (by omega) (fun q hq => by
    have := HPRE.out.lt q hq
    omega)
  refine wpList_plain rfl fun K hK => ?_
  unfold Oper.wp
  have hev : ∀ (o : Oper) (b : Act), o.op = .assign (.tmp 123) → b.tmps.size = 196 → (execOp (b.put (some 123) v').eval o).run Tryd.prog w7 = .ok (.value v') w7 := fun o b ho hb => by
    simp [execOp, ho, Act.eval, Act.put, Array.getElem?_setIfInBounds, hb]
  dsimp only
  rw [hev _ _ rfl (by simp [Act.put, HSZ.out])]
  exact hK _ _ (h _ _ _ v' w7 hrow hbel)
end Go.Proofs.YtleemphfkhbhaaaDoor

/- TopDustLoud, where it seeks. -/
namespace Go.Proofs.YtleemphfkhbhaaaDoor
open Go.RowKit
open Calm (bcell Blk)

theorem Cells.take {w : World} {A : Option Addr} {zs : List Int} (h : Cells w A zs) (n : Nat) : Cells w A (zs.take n) := by
  intro h0
  rw [List.length_take] at h0
  obtain ⟨b, o, hA, hl, hc⟩ := h (by omega)
  refine ⟨b, o, hA, hl, fun k hk => ?_⟩
  rw [List.length_take] at hk
  rw [hc k (by omega), List.getD_eq_getElem?_getD, List.getD_eq_getElem?_getD, List.getElem?_take, if_pos (by omega)]
theorem sl4h (b N : Nat) (h : N ≤ 4) (W : World) : Sem.run Tryd.prog (Instr.sliceAt 49 (.pointer (some ⟨b, 0, none⟩)) none (some (.int .i64 ((N : Int)))) none) W = .ok (.slice (some ⟨b, 0, none⟩) N 4) W := by
  have ht : Tryd.prog.underlying 49 = some (.array 4 3) := by kernel_rfl
  obtain ⟨i0, hi, hz0, hz1, hz2⟩ := info_parts Tryd.infoI
  have h1 : (N : Int) ≤ 4 := by omega
  have h2 : (0 : Int) ≤ (N : Int) := by omega
  simp [Instr.sliceAt, run_underlying ht, Instr.sliceBounds, Instr.sureAddr, sizeOf, typeInfo, hi, Addr.add, asIntOf, Instr.sliceBound, h, h1, h2]

set_option maxRecDepth 100000 in
set_option maxHeartbeats 16000000 in
theorem loud_ok (lk ht rc i0 i1 i2 i3 n : Int) (ts : List Int) (A1 A2 : Option Addr) (M L c1 c2 : Nat) (w : World) (hM : M = ts.length) (hLim : Lim w) (hT : Cells w A1 ts) (g0 : M ≤ 9) (g1 : guardErr lk ht rc ts [0, 16] = 0) (g2 : sigErr [i0, i1, i2, i3] = 0) (hn : 0 ≤ n ∧ n ≤ 255) :
    Calls Tryd.prog 4 #[.agg #[(.int .i64 (lk)), (.int .i64 (ht)), .slice A1 M c1, (.int .i64 (rc)), .slice A2 L c2], .agg #[(.int .i64 (i0)), (.int .i64 (i1)), (.int .i64 (i2)), (.int .i64 (i3))], .int .u8 n] w fun r w' => r = .returned (.bool true) ∧ Below w.heap.size w w' := by
  have HAMP : Hid (∀ W, Lim W → Calls Tryd.prog 9 #[] W fun r w' => r = .returned (.bool true) ∧ Below W.heap.size W w') := Lib.hid dustAmp_any
  obtain ⟨AG, hAG⟩ : ∃ AG : Option Addr, AG = some ⟨w.heap.size + 1 + 1, 0, none⟩ := ⟨_, rfl⟩
  have HSH : Hid (∀ W, Calls Tryd.prog 5 #[.agg #[(.int .i64 (lk)), (.int .i64 (ht)), .slice A1 M c1, (.int .i64 (rc)), .slice (some ⟨w.heap.size + 1 + 1, 0, none⟩) 2 2]] W fun r w' => r = .returned (.bool true) ∧ Below W.heap.size W w') := Lib.hid (fun W => by
    have := pShort_any lk ht rc A1 (some ⟨w.heap.size + 1 + 1, 0, none⟩) M 2 c1 2 W
    rwa [decide_eq_true (by omega)] at this)
  have HCG : Hid (∀ W, Cells W A1 ts → Cells W (some ⟨w.heap.size + 1 + 1, 0, none⟩) [0, 16] → Calls Tryd.prog 6 #[.agg #[(.int .i64 (lk)), (.int .i64 (ht)), .slice A1 M c1, (.int .i64 (rc)), .slice (some ⟨w.heap.size + 1 + 1, 0, none⟩) 2 2]] W fun r w' => r = .returned (.int .i64 (0)) ∧ Below W.heap.size W w') := Lib.hid (fun W q1 q2 => by
    have := pGuard_any lk ht rc ts [0, 16] A1 (some ⟨w.heap.size + 1 + 1, 0, none⟩) c1 2 W q1 q2 (by omega) (by simp)
    rwa [← hM, g1] at this)
  have HSG : Hid (∀ W, Cells W (some ⟨w.heap.size + 1, 0, none⟩) [i0, i1, i2, i3] → Calls Tryd.prog 14 #[.slice (some ⟨w.heap.size + 1, 0, none⟩) 4 4] W fun r w' => r = .returned (.int .i64 (0)) ∧ W = w') := Lib.hid (fun W q1 => by
    have := pSignal_any [i0, i1, i2, i3] (some ⟨w.heap.size + 1, 0, none⟩) 4 W q1 (by simp)
    rwa [g2] at this)
  have hV := guard_valid g1
  obtain ⟨_, hx0⟩ := sigErr_zero g2
  obtain ⟨N, hN⟩ : ∃ N : Nat, (N : Int) = n % 5 := ⟨(n % 5).toNat, by omega⟩
  have hN4 : N ≤ 4 := by omega
  obtain ⟨xs, hxs⟩ : ∃ xs, xs = ([i0, i1, i2, i3] : List Int).take N := ⟨_, rfl⟩
  have hxl : xs.length = N := by rw [hxs]; simp; omega
  have hxi : inB 2048 xs := fun y hy => hx0 y (by rw [hxs] at hy; exact List.mem_of_mem_take hy)
  obtain ⟨os, hos⟩ : ∃ os, os = outsK lk ht rc ts [0, 16] xs N := ⟨_, rfl⟩
  have hol : os.length = N := by rw [hos, outsK_len]
  have hoi : inB 2048 os := by rw [hos]; exact outs_in hV hxi N
  have hmu : ∀ k, k < N → os.getD k 0 = xs.getD k 0 ∨ os.getD k 0 = 0 := fun k hk => by rw [hos, outsK_get hk]; exact mute_out hV hxi k
  obtain ⟨ls, hls⟩ : ∃ ls, ls = lvlK xs N := ⟨_, rfl⟩
  have hll := lvlK_len xs N
  have hli : inB 2048 ls := by rw [hls]; exact lvlK_in hxi N
  rw [← hls] at hll
  have hpo : PathF lk ht rc ts ls 0 (List.replicate (ts.length - 1) 0) os := by
    rw [hos]
    refine outs_path0 hV hxi fun k hk => ?_
    rw [hls, lvlK_mem]
    rcases mute_out (lk := lk) (ht := ht) (rc := rc) (ts := ts) hV hxi k with h | h
    · exact .inr ⟨k, hk, h⟩
    · exact .inl h
  obtain ⟨ld, hld, hge⟩ := loud_ge (gs := [0, 16]) hpo
  rw [hol] at hld
  obtain ⟨hpl, hldl⟩ := loud_sound hld
  have hldi : inB 2048 ld := fun y hy => hli y (path_in hpl y hy)
  have HF1 : Hid (enF os ≤ enF ld) := Lib.hid hge
  have HF2 : Hid (pkH lk ld N ≤ ht) := Lib.hid (pkH_le hV.ht.1 N (fun k hk => (path_safe hpl (by omega)).1))
  have HF3 : Hid (pkX ts ld N ≤ rc) := Lib.hid (pkX_le hV.rc.1 N (fun k hk => (path_safe hpl (by omega)).2))
  have HDG : Hid (∀ W, Cells W A1 ts → Cells W (some ⟨w.heap.size + 1 + 1, 0, none⟩) [0, 16] → Calls Tryd.prog 13 #[.agg #[(.int .i64 (lk)), (.int .i64 (ht)), .slice A1 M c1, (.int .i64 (rc)), .slice (some ⟨w.heap.size + 1 + 1, 0, none⟩) 2 2]] W fun r w' => (∃ B1 d1 B2 d2, r = .returned (.agg #[(.int .i64 (lk)), (.int .i64 (ht)), .slice B1 M d1, (.int .i64 (rc)), .slice B2 2 d2]) ∧ Cells w' B1 ts ∧ Cells w' B2 [0, 16]) ∧ Below W.heap.size W w') := Lib.hid (fun W q1 q2 => dustGuard_any lk ht rc ts [0, 16] A1 (some ⟨w.heap.size + 1 + 1, 0, none⟩) M 2 c1 2 W hM rfl q1 q2 (by omega) (by omega))
  have HRUN : Hid (∀ (B1 B2 B3 : Option Addr) (d1 d2 d3 : Nat) (W : World), Lim W → Cells W B1 ts → Cells W B2 [0, 16] → Cells W B3 xs → Calls Tryd.prog 12 #[.agg #[(.int .i64 (lk)), (.int .i64 (ht)), .slice B1 M d1, (.int .i64 (rc)), .slice B2 2 d2], .slice B3 N d3] W fun r w' => (∃ B d, r = .returned (.tuple #[.slice B N d, (.int .i64 (0))]) ∧ Cells w' B os) ∧ Below W.heap.size W w') := Lib.hid (fun B1 B2 B3 d1 d2 d3 W q0 q1 q2 q3 => by
    have := run_ok lk ht rc ts [0, 16] xs B1 B2 B3 d1 d2 d3 W q0 hV q1 q2 q3 hxi (by omega) (by simp) (by omega) (run_noErr g1 hxi (by omega))
    rwa [hxl, ← hos, ← hM] at this)
  have HPS : Hid (∀ (B : Option Addr) (d : Nat) (W : World), Cells W B os → Calls Tryd.prog 14 #[.slice B N d] W fun r w' => r = .returned (.int .i64 (0)) ∧ W = w') := Lib.hid (fun B d W q => by
    have := pSignal_any os B d W q (by omega)
    rwa [hol, sig_ok hoi (by omega)] at this)
  have HLD : Hid (∀ (B1 B2 B3 : Option Addr) (d1 d2 d3 : Nat) (W : World), Lim W → Cells W B1 ts → Cells W B2 [0, 16] → Cells W B3 ls → Calls Tryd.prog 17 #[.agg #[(.int .i64 (lk)), (.int .i64 (ht)), .slice B1 M d1, (.int .i64 (rc)), .slice B2 2 d2], .slice B3 ls.length d3, (.int .i64 (N))] W fun r w' => (∃ B d, r = .returned (.tuple #[.slice B N d, (.int .i64 (0))]) ∧ Cells w' B ld) ∧ Below W.heap.size W w') := Lib.hid (fun B1 B2 B3 d1 d2 d3 W q0 q1 q2 q3 => by
    have := Loudest_ok lk ht rc N ts [0, 16] ls B1 B2 B3 d1 d2 d3 M 2 ls.length W hM rfl rfl q0 hV q1 q2 q3 ⟨hll.1, by omega⟩ (by omega) hli (loud_noErr g1 hll.1 (by omega) (by rw [hls]; exact lvlK_rising xs N) hli (by omega))
    rw [hld] at this
    simpa [hldl] using this)
  have HEN : Hid (∀ (ys : List Int), inB 2048 ys → ys.length = N → ∀ (B : Option Addr) (d : Nat) (W : World), Cells W B ys → Calls Tryd.prog 18 #[.slice B N d] W fun r w' => r = .returned (.tuple #[(.int .i64 (enF ys)), (.int .i64 (0))]) ∧ Below W.heap.size W w') := Lib.hid (fun ys hy hyl B d W q => by
    have := Energy_any ys B d W q (by omega) (fun _ => hy)
    rwa [sig_ok hy (by omega), if_pos rfl, hyl] at this)
  have HPK : Hid (∀ (B1 B2 B3 : Option Addr) (d1 d2 d3 : Nat) (W : World), Cells W B1 ts → Cells W B2 [0, 16] → Cells W B3 ld → Calls Tryd.prog 16 #[.agg #[(.int .i64 (lk)), (.int .i64 (ht)), .slice B1 M d1, (.int .i64 (rc)), .slice B2 2 d2], .slice B3 N d3] W fun r w' => r = .returned (.tuple #[.agg #[(.int .i64 (pkH lk ld N)), (.int .i64 (pkX ts ld N))], (.int .i64 (0))]) ∧ Below W.heap.size W w') := Lib.hid (fun B1 B2 B3 d1 d2 d3 W q1 q2 q3 => by
    have := peaks_ok lk ht rc ts [0, 16] ld B1 B2 B3 d1 d2 d3 W hV q1 q2 q3 hldi (by omega) (by simp) (by omega) (run_noErr g1 hldi (by omega))
    rwa [hldl, ← hM] at this)
  have HEO := Lib.hid (HEN.out os hoi hol)
  have HEL := Lib.hid (HEN.out ld hldi hldl)
  have HMU := Lib.hid hmu
  have HXS := Lib.hid hxs
  have HXL := Lib.hid hxl
  have HXI := Lib.hid hxi
  have HOL := Lib.hid hol
  have HLS := Lib.hid hls
  have HLDL := Lib.hid hldl
  have HT := Lib.hid hT
  have HL := Lib.hid hLim
  have hsl := sl4 (w.heap.size + 1)
  have hsl2 := sl4h (w.heap.size + 1) N hN4
  rw [hN] at hsl2
  have HN := Lib.hid hN
  obtain ⟨EO, hEO⟩ : ∃ E, E = enF os := ⟨_, rfl⟩
  obtain ⟨EL, hEL⟩ : ∃ E, E = enF ld := ⟨_, rfl⟩
  obtain ⟨PH, hPH⟩ : ∃ E, E = pkH lk ld N := ⟨_, rfl⟩
  obtain ⟨PX, hPX⟩ : ∃ E, E = pkX ts ld N := ⟨_, rfl⟩
  rw [← hEO] at HEO HF1
  rw [← hEL] at HEL HF1
  rw [← hPH] at HPK HF2
  rw [← hPX] at HPK HF3
  clear hN hM hLim hT g0 g1 g2 hV hx0 hxs hxl hxi hos hol hoi hmu hls hll hli hpo hld hge hpl hldl hldi HEN hEO hEL hPH hPX hAG
  obtain ⟨hn0, hn1⟩ := hn
  go_enter Tryd.func4, Tryd.ntmps4
  go_wp2_with (go_at_call 5; refine name_calls ?_; intro w0 e0; refine Hid.out ?_)
  have HB0 := Lib.hid (show Below w.heap.size w w0 from by rw [e0]; (repeat (first | (with_reducible exact Below.refl _ _) | ((with_reducible refine Below.setCell ?_ ?_ _); rotate_left 1; focus (first | (simp; done) | (simp; omega) | (simp at *; omega))) | ((with_reducible refine Below.alloc ?_ ?_ _); rotate_left 1; focus (first | (simp; done) | (simp; omega) | (simp at *; omega))) | (with_reducible refine Below.drew ?_) | ((with_reducible refine Calm.step (by assumption) ?_ ?_); rotate_left 1; focus (first | (simp; done) | (simp; omega) | (simp at *; omega))))))
  have K0 := Lib.hid (show Blk w0 w.heap.size #[(.int .i64 (lk)), (.int .i64 (ht)), .slice A1 M c1, (.int .i64 (rc)), .slice (some ⟨w.heap.size + 1 + 1, 0, none⟩) 2 2] from by rw [e0]; (repeat (first | ((with_reducible refine Blk.at_ ?_); focus (first | rfl | (simp; done) | (simp; omega))) | (with_reducible refine Blk.alloc ?_ _) | (with_reducible refine Blk.below ?_ (by with_reducible assumption)) | (with_reducible refine Blk.drew ?_))))
  have H16 := Lib.hid (show Cells w0 (some ⟨w.heap.size + 1 + 1, 0, none⟩) [0, 16] from blk_cells (zs := [0, 16]) (show Blk w0 (w.heap.size + 1 + 1) #[(.int .i64 (0)), (.int .i64 (16))] from by rw [e0]; (repeat (first | ((with_reducible refine Blk.at_ ?_); focus (first | rfl | (simp; done) | (simp; omega))) | (with_reducible refine Blk.alloc ?_ _) | (with_reducible refine Blk.below ?_ (by with_reducible assumption)) | (with_reducible refine Blk.drew ?_)))))
  have HIN := Lib.hid (show Cells w0 (some ⟨w.heap.size + 1, 0, none⟩) [i0, i1, i2, i3] from blk_cells (zs := [i0, i1, i2, i3]) (show Blk w0 (w.heap.size + 1) #[(.int .i64 (i0)), (.int .i64 (i1)), (.int .i64 (i2)), (.int .i64 (i3))] from by rw [e0]; (repeat (first | ((with_reducible refine Blk.at_ ?_); focus (first | rfl | (simp; done) | (simp; omega))) | (with_reducible refine Blk.alloc ?_ _) | (with_reducible refine Blk.below ?_ (by with_reducible assumption)) | (with_reducible refine Blk.drew ?_)))))
  clear e0
  unfold Hid
  refine (HSH.out _).mono ?_
  rintro r w1 ⟨rfl, hb1⟩
  have HB1 := Lib.hid (HB0.out.trans (hb1.mono HB0.out.size))
  have K1 := Lib.hid (K0.out.below hb1)
  have H161 := Lib.hid (H16.out.below hb1)
  have HIN1 := Lib.hid (HIN.out.below hb1)
  obtain ⟨c00, c01, c02, c03, c04, l0, f0⟩ := K1.out.o5
  clear hb1
  go_wp2_with (first
    | (go_at_call 6; refine (HCG.out _ (HT.out.below HB1.out) H161.out).mono ?_; rintro r w2 ⟨rfl, hb2⟩; have HB2 := Lib.hid (HB1.out.trans (hb2.mono HB1.out.size)); have HIN2 := Lib.hid (HIN1.out.below hb2); have H162 := Lib.hid (H161.out.below hb2); have K2 := Lib.hid (K1.out.below hb2); clear hb2)
    | (go_at_call 14; refine (HSG.out _ HIN2.out).mono ?_; rintro r w3 ⟨rfl, rfl⟩)
    | (at_builtin; refine wpList_appC rfl _ _ rfl w2.heap.size N 4 (some ⟨w.heap.size + 1, 0, none⟩) xs HXL.out.symm rfl rfl ⟨by simp, .inr ⟨_, 0, #[], rfl, Nat.le_refl _, by show (w2.heap.push _)[w2.heap.size]? = _; simp, Nat.le_refl _, Nat.zero_le _, by simp, by simp⟩⟩ (by omega) ?cxs ?_))
  case cxs => rw [HXS.out]; exact (HIN2.out.below ((Below.refl _ _).alloc (Nat.le_refl _) _)).take N
  intro B4 d4 w4 hb4 ho4
  obtain ⟨B4', d4', e4, -, hc4⟩ := own_ints ho4 HXL.out.symm
  cases e4
  have hz2 : w.heap.size ≤ w2.heap.size := HB2.out.size
  have hA2 : Below w2.heap.size w2 (w2.alloc (.cells #[] 3)) := (Below.refl _ _).alloc (Nat.le_refl _) _
  have hb24 : Below w2.heap.size w2 w4 := hA2.trans (hb4.mono (by simp))
  have HB4 := Lib.hid (HB2.out.trans (hb24.mono hz2))
  have H164 := Lib.hid (H162.out.below hb24)
  have K4 := Lib.hid (K2.out.below hb24)
  have HC4 := Lib.hid hc4
  have hz4 : w.heap.size ≤ w4.heap.size := HB4.out.size
  clear hb4 ho4 hc4 hA2 hb24 HB1 HB2 K0 K1 K2 H16 H161 H162 HIN HIN1 HIN2 HSH HCG HSG hsl hsl2 c00 c01 c02 c03 c04 l0 f0
  obtain ⟨c00, c01, c02, c03, c04, l0, f0⟩ := K4.out.o5
  go_wp2_with (first
    | (go_at_call 13; refine (HDG.out _ (HT.out.below HB4.out) H164.out).mono ?_; rintro r w5 ⟨⟨B1, d1, B2, d2, rfl, q1, q2⟩, hb5⟩; have hz5 := hb5.size; have HQ1 := Lib.hid q1; have HQ2 := Lib.hid q2; have HB5 := Lib.hid (HB4.out.trans (hb5.mono hz4)); have H165 := Lib.hid (H164.out.below hb5); have K5 := Lib.hid (K4.out.below hb5); have HC5 := Lib.hid (HC4.out.below hb5); clear q1 q2 hb5 c00 c01 c02 c03 c04 l0 f0)
    | (at_builtin; refine wpList_appC rfl _ _ rfl w5.heap.size N d4 B4 xs HXL.out.symm rfl rfl ⟨by simp, .inr ⟨_, 0, #[], rfl, Nat.le_refl _, by show (w5.heap.push _)[w5.heap.size]? = _; simp, Nat.le_refl _, Nat.zero_le _, by simp, by simp⟩⟩ (by omega) (HC5.out.below ((Below.refl _ _).alloc (Nat.le_refl _) _)) ?_))
  intro B6 d6 w6 hb6 ho6
  obtain ⟨B6', d6', e6, -, hc6⟩ := own_ints ho6 HXL.out.symm
  cases e6
  have hA2 : Below w5.heap.size w5 (w5.alloc (.cells #[] 3)) := (Below.refl _ _).alloc (Nat.le_refl _) _
  have hb56 : Below w5.heap.size w5 w6 := hA2.trans (hb6.mono (by simp))
  have HB6 := Lib.hid (HB5.out.trans (hb56.mono (by omega)))
  have HQ16 := Lib.hid (HQ1.out.below hb56)
  have HQ26 := Lib.hid (HQ2.out.below hb56)
  have H166 := Lib.hid (H165.out.below hb56)
  have K6 := Lib.hid (K5.out.below hb56)
  have HC46 := Lib.hid (HC5.out.below hb56)
  have HC6 := Lib.hid hc6
  have hz6 : w.heap.size ≤ w6.heap.size := HB6.out.size
  clear hb6 ho6 hc6 hA2 hb56 HB4 HB5 K4 K5 H164 H165 HQ1 HQ2 HC4 HC5
  go_wp2_with (first
    | (go_at_call 12; refine (HRUN.out _ _ _ _ _ _ _ (HL.out.below HB6.out) HQ16.out HQ26.out HC6.out).mono ?_; rintro r w7 ⟨⟨B7, d7, rfl, hc7⟩, hb7⟩; have hz7 := hb7.size; have HB7 := Lib.hid (HB6.out.trans (hb7.mono (by omega))); have HC7 := Lib.hid hc7; have K7 := Lib.hid (K6.out.below hb7); have H167 := Lib.hid (H166.out.below hb7); have HC47 := Lib.hid (HC46.out.below hb7); clear hc7 hb7)
    | (go_at_call 14; refine (HPS.out _ _ _ HC7.out).mono ?_; rintro r w' ⟨rfl, rfl⟩))
  clear HRUN HPS HQ16 HQ26 HC6 HB6 K6 H166 HC46
  have hz77 : w.heap.size ≤ w7.heap.size := HB7.out.size
  go_loopw [10, 70] (fun v i wr => ∃ k : Nat, k ≤ N ∧ i = (.int .i64 ((k : Int))) ∧ wr.ownsRow w7.heap.size 3 1 v (lvlK xs k).length ((lvlK xs k).map (Value.int .i64)) ∧ Below w7.heap.size w7 wr) (fun _ i _ => N - (intOf i).toNat)
  case atStart => exact ⟨0, Nat.zero_le _, rfl, ⟨by simp [lvlK], .inr ⟨_, 1, #[(.int .i64 (0))], rfl, Nat.le_refl _, heap_new rfl, by simp [lvlK], by decide, rfl, rfl⟩⟩, (Below.refl _ _).alloc (Nat.le_refl _) _⟩
  case round =>
    obtain ⟨k, hk, rfl, hown, hB⟩ := hrel
    have HB := Lib.hid hB
    have hszr := hB.size
    by_cases hlt : k < N
    · obtain ⟨b4, o4, rfl, l4, k4⟩ := HC47.out (by rw [HXL.out]; omega)
      have x4 := (hB.cell (p := ⟨b4, o4 + k, none⟩) l4).trans (k4 k (by rw [HXL.out]; exact hlt))
      obtain ⟨b7, o7, rfl, l7, k7⟩ := HC7.out (by rw [HOL.out]; omega)
      have y7 := (hB.cell (p := ⟨b7, o7 + k, none⟩) l7).trans (k7 k (by rw [HOL.out]; exact hlt))
      have hm1 := lvlK_len xs k
      have HMUk := HMU.out k hlt
      have HLV1 : Hid (lvlK xs (k + 1) = insF (lvlK xs k) (xs.getD k 0)) := Lib.hid rfl
      obtain ⟨LV, hLV⟩ : ∃ LV, LV = lvlK xs k := ⟨_, rfl⟩
      rw [← hLV] at hown hm1 HLV1
      obtain ⟨X, hX⟩ : ∃ X, X = xs.getD k 0 := ⟨_, rfl⟩
      obtain ⟨Y, hY⟩ : ∃ Y, Y = os.getD k 0 := ⟨_, rfl⟩
      rw [← hX] at x4 HMUk HLV1
      rw [← hY] at y7 HMUk
      obtain ⟨J, hJ⟩ : ∃ J, J = lessK LV X := ⟨_, rfl⟩
      have hJm := lessK_le LV X
      have HLE : Hid (∀ j, j < J → LV.getD j 0 < X) := Lib.hid (fun j hj => less_lt (by rw [← hJ]; exact hj))
      have HGE : Hid (J < LV.length → ¬ LV.getD J 0 < X) := Lib.hid (fun h => by rw [hJ]; exact less_ge (by rw [← hJ]; exact h))
      have HINS : Hid (insF LV X = if LV[J]? = some X then LV else LV.take J ++ X :: LV.drop J) := Lib.hid (by rw [hJ]; rfl)
      rw [← hJ] at hJm
      obtain ⟨g, cap, e1, hcells⟩ : ∃ g cap, u10 = .slice (some ⟨g, 0, none⟩) LV.length cap ∧ LV.length ≤ cap ∧ w7.heap.size ≤ g ∧ g < wr.heap.size ∧ ∀ j, j < LV.length → wr.cell? ⟨g, j, none⟩ = some (.int .i64 (LV.getD j 0)) := by
        obtain ⟨B', c', e1, h1, h2⟩ := own_ints hown rfl
        rcases hown.2 with ⟨h3, h4⟩ | ⟨g, cap, cur, h3, h4, h5, h6, _⟩
        · omega
        · rw [h3] at e1
          cases e1
          obtain ⟨b, o, q1, q2, q3⟩ := h2 (by omega)
          cases q1
          exact ⟨g, _, h3, h6, h4, q2, fun j hj => by have := q3 j hj; rwa [Nat.zero_add] at this⟩
      subst e1
      obtain ⟨hcap, hgB, hgl, hcl⟩ := hcells
      have HCL := Lib.hid hcl
      have HOWN := Lib.hid hown
      obtain ⟨m, hm⟩ : ∃ m, m = LV.length := ⟨_, rfl⟩
      have HM := Lib.hid hm
      rw [← hm] at hm1 hJm HGE hcap HCL HOWN ⊢
      clear k4 k7 hown hLV hX hY hJ hcl hm hB
      have hXY : X = Y ∨ Y = 0 ∧ ¬ (0 : Int) = X := by
        by_cases h : Y = X
        · exact .inl h.symm
        · rcases HMUk with h1 | h1
          · exact absurd h1 h
          · exact .inr ⟨h1, by rw [← h1]; exact h⟩
      clear HMUk
      rcases hXY with hxy | ⟨rfl, hne⟩
      · subst hxy
        go_wp2
        go_loop [13] (fun a => ∃ j : Nat, j ≤ J ∧ a = (.int .i64 ((j : Int)))) (fun a => J - (intOf a).toNat)
        case atStart => exact ⟨0, Nat.zero_le _, rfl⟩
        case round =>
          obtain ⟨j, hj, rfl⟩ := hrel
          by_cases hjJ : j < J
          · have cj := HCL.out j (by omega)
            have lj := HLE.out j hjJ
            have hjm : j < m := by omega
            obtain ⟨u, hu⟩ : ∃ u, u = LV.getD j 0 := ⟨_, rfl⟩
            rw [← hu] at cj lj
            clear hu
            go_wp2
            go_round
            case rel => exact ⟨j + 1, by omega, by go_num⟩
            case measure => simp [intOf]; omega
          · obtain rfl : j = J := by omega
            by_cases hjm : j < m
            · have cj := HCL.out j hjm
              have gj := HGE.out hjm
              have HJE : Hid (LV[j]? = some (LV.getD j 0)) := Lib.hid (by rw [List.getD_eq_getElem?_getD, List.getElem?_eq_getElem (by rw [← HM.out]; exact hjm)]; rfl)
              obtain ⟨u, hu⟩ : ∃ u, u = LV.getD j 0 := ⟨_, rfl⟩
              rw [← hu] at cj gj HJE
              clear hu
              have gj2 : ¬ u < X := by omega
              have hne2 : ¬ (j : Int) = (m : Int) := by omega
              have hne3 : ((j : Int) == (m : Int)) = false := beq_eq_false_iff_ne.2 hne2
              by_cases hux : u = X
              · subst hux
                go_wp2
                go_roundw
                case rel =>
                  refine ⟨k + 1, by omega, by go_num, ?_, HB.out⟩
                  rw [HLV1.out, HINS.out, if_pos HJE.out, ← HM.out]
                  exact HOWN.out
                case measure => simp [intOf]; omega
              · have HNI : Hid (¬ LV[j]? = some X) := Lib.hid (by rw [HJE.out]; intro h; cases h; exact hux rfl)
                have hbb : (u != X) = true := by simpa using hux
                go_wp2
                refine ins_region LV X w7.heap.size g m cap j wr _ _ rfl rfl rfl rfl HOWN.out HM.out hJm hcap (by omega) hm1.1 hszr ?_
                intro y8 y1 y2 v' W' hrow hbel
                (try simp only [Act.put, List.setIfInBounds_toArray, List.set_cons_zero, List.set_cons_succ])
                have HROW := Lib.hid hrow
                have HBEL := Lib.hid (HB.out.trans hbel)
                clear hrow hbel
                go_wp2
                go_roundw
                case rel =>
                  refine ⟨k + 1, by omega, by go_num, ?_, HBEL.out⟩
                  have hl : (LV.take j ++ X :: LV.drop j).length = m + 1 := by simp; have := HM.out; omega
                  rw [HLV1.out, HINS.out, if_neg HNI.out, hl]
                  exact HROW.out
                case measure => simp [intOf]; omega
            · have hjm2 : j = m := by omega
              have hjm3 : ((j : Int) == (m : Int)) = true := by rw [hjm2]; simp
              have hjm4 : ¬ (j : Int) < (m : Int) := by omega
              have HNI : Hid (¬ LV[j]? = some X) := Lib.hid (by rw [hjm2, HM.out, List.getElem?_eq_none (Nat.le_refl _)]; intro h; cases h)
              have HJM2 := Lib.hid hjm2
              clear hjm2 hjm
              go_wp2
              refine ins_region LV X w7.heap.size g m cap j wr _ _ rfl rfl rfl rfl HOWN.out HM.out hJm hcap (by omega) hm1.1 hszr ?_
              intro y8 y1 y2 v' W' hrow hbel
              (try simp only [Act.put, List.setIfInBounds_toArray, List.set_cons_zero, List.set_cons_succ])
              have HROW := Lib.hid hrow
              have HBEL := Lib.hid (HB.out.trans hbel)
              clear hrow hbel
              go_wp2
              go_roundw
              case rel =>
                refine ⟨k + 1, by omega, by go_num, ?_, HBEL.out⟩
                have hl : (LV.take j ++ X :: LV.drop j).length = m + 1 := by simp; have := HM.out; omega
                rw [HLV1.out, HINS.out, if_neg HNI.out, hl]
                exact HROW.out
              case measure => simp [intOf]; omega
      · go_wp2
        go_loop [13] (fun a => ∃ j : Nat, j ≤ J ∧ a = (.int .i64 ((j : Int)))) (fun a => J - (intOf a).toNat)
        case atStart => exact ⟨0, Nat.zero_le _, rfl⟩
        case round =>
          obtain ⟨j, hj, rfl⟩ := hrel
          by_cases hjJ : j < J
          · have cj := HCL.out j (by omega)
            have lj := HLE.out j hjJ
            have hjm : j < m := by omega
            obtain ⟨u, hu⟩ : ∃ u, u = LV.getD j 0 := ⟨_, rfl⟩
            rw [← hu] at cj lj
            clear hu
            go_wp2
            go_round
            case rel => exact ⟨j + 1, by omega, by go_num⟩
            case measure => simp [intOf]; omega
          · obtain rfl : j = J := by omega
            by_cases hjm : j < m
            · have cj := HCL.out j hjm
              have gj := HGE.out hjm
              have HJE : Hid (LV[j]? = some (LV.getD j 0)) := Lib.hid (by rw [List.getD_eq_getElem?_getD, List.getElem?_eq_getElem (by rw [← HM.out]; exact hjm)]; rfl)
              obtain ⟨u, hu⟩ : ∃ u, u = LV.getD j 0 := ⟨_, rfl⟩
              rw [← hu] at cj gj HJE
              clear hu
              have gj2 : ¬ u < X := by omega
              have hne2 : ¬ (j : Int) = (m : Int) := by omega
              have hne3 : ((j : Int) == (m : Int)) = false := beq_eq_false_iff_ne.2 hne2
              by_cases hux : u = X
              · subst hux
                go_wp2
                go_roundw
                case rel =>
                  refine ⟨k + 1, by omega, by go_num, ?_, HB.out⟩
                  rw [HLV1.out, HINS.out, if_pos HJE.out, ← HM.out]
                  exact HOWN.out
                case measure => simp [intOf]; omega
              · have HNI : Hid (¬ LV[j]? = some X) := Lib.hid (by rw [HJE.out]; intro h; cases h; exact hux rfl)
                have hbb : (u != X) = true := by simpa using hux
                go_wp2
                refine ins_region LV X w7.heap.size g m cap j wr _ _ rfl rfl rfl rfl HOWN.out HM.out hJm hcap (by omega) hm1.1 hszr ?_
                intro y8 y1 y2 v' W' hrow hbel
                (try simp only [Act.put, List.setIfInBounds_toArray, List.set_cons_zero, List.set_cons_succ])
                have HROW := Lib.hid hrow
                have HBEL := Lib.hid (HB.out.trans hbel)
                clear hrow hbel
                go_wp2
                go_roundw
                case rel =>
                  refine ⟨k + 1, by omega, by go_num, ?_, HBEL.out⟩
                  have hl : (LV.take j ++ X :: LV.drop j).length = m + 1 := by simp; have := HM.out; omega
                  rw [HLV1.out, HINS.out, if_neg HNI.out, hl]
                  exact HROW.out
                case measure => simp [intOf]; omega
            · have hjm2 : j = m := by omega
              have hjm3 : ((j : Int) == (m : Int)) = true := by rw [hjm2]; simp
              have hjm4 : ¬ (j : Int) < (m : Int) := by omega
              have HNI : Hid (¬ LV[j]? = some X) := Lib.hid (by rw [hjm2, HM.out, List.getElem?_eq_none (Nat.le_refl _)]; intro h; cases h)
              have HJM2 := Lib.hid hjm2
              clear hjm2 hjm
              go_wp2
              refine ins_region LV X w7.heap.size g m cap j wr _ _ rfl rfl rfl rfl HOWN.out HM.out hJm hcap (by omega) hm1.1 hszr ?_
              intro y8 y1 y2 v' W' hrow hbel
              (try simp only [Act.put, List.setIfInBounds_toArray, List.set_cons_zero, List.set_cons_succ])
              have HROW := Lib.hid hrow
              have HBEL := Lib.hid (HB.out.trans hbel)
              clear hrow hbel
              go_wp2
              go_roundw
              case rel =>
                refine ⟨k + 1, by omega, by go_num, ?_, HBEL.out⟩
                have hl : (LV.take j ++ X :: LV.drop j).length = m + 1 := by simp; have := HM.out; omega
                rw [HLV1.out, HINS.out, if_neg HNI.out, hl]
                exact HROW.out
              case measure => simp [intOf]; omega
    · obtain rfl : k = N := by omega
      obtain ⟨BL, dL, eL, -, hcL⟩ := own_ints hown (by rw [← HLS.out])
      subst eL
      rw [← HLS.out] at hcL ⊢
      have HCL := Lib.hid hcL
      have HBr := Lib.hid (HB7.out.trans (hB.mono hz77))
      have Kr := Lib.hid (K7.out.below hB)
      have H16r := Lib.hid (H167.out.below hB)
      have HCYr := Lib.hid (HC7.out.below hB)
      have hzr : w.heap.size ≤ wr.heap.size := HBr.out.size
      have hl5 : ls.length ≤ 5 := by have := (lvlK_len xs k).2; rw [← HLS.out] at this; omega
      clear hown hcL hB HB K7 H167 HC7 HC47 HB7 HMU
      obtain ⟨c00, c01, c02, c03, c04, l0, f0⟩ := Kr.out.o5
      go_wp2_with (first
        | (go_at_call 13; refine (HDG.out _ (HT.out.below HBr.out) H16r.out).mono ?_; rintro r wa ⟨⟨B1, e1, B2, e2, rfl, q1, q2⟩, hba⟩; have hza := hba.size; have HQ1 := Lib.hid q1; have HQ2 := Lib.hid q2; have HBa := Lib.hid (HBr.out.trans (hba.mono hzr)); have H16a := Lib.hid (H16r.out.below hba); have Ka := Lib.hid (Kr.out.below hba); have HCLa := Lib.hid (HCL.out.below hba); have HCYa := Lib.hid (HCYr.out.below hba); clear q1 q2 hba c00 c01 c02 c03 c04 l0 f0)
        | (at_builtin; refine wpList_appC rfl _ _ rfl wa.heap.size ls.length dL BL ls rfl rfl rfl ⟨by simp, .inr ⟨_, 0, #[], rfl, Nat.le_refl _, by show (wa.heap.push _)[wa.heap.size]? = _; simp, Nat.le_refl _, Nat.zero_le _, by simp, by simp⟩⟩ (by omega) (HCLa.out.below ((Below.refl _ _).alloc (Nat.le_refl _) _)) ?_))
      intro B11 d11 w11 hb11 ho11
      obtain ⟨B11', d11', e11, -, hc11⟩ := own_ints ho11 rfl
      cases e11
      have hA11 : Below wa.heap.size wa (wa.alloc (.cells #[] 3)) := (Below.refl _ _).alloc (Nat.le_refl _) _
      have hq11 : Below wa.heap.size wa w11 := hA11.trans (hb11.mono (by simp))
      have HC11 := Lib.hid hc11
      have HB11 := Lib.hid (HBa.out.trans (hq11.mono (by omega)))
      have HQ111 := Lib.hid (HQ1.out.below hq11)
      have HQ211 := Lib.hid (HQ2.out.below hq11)
      have H1611 := Lib.hid (H16a.out.below hq11)
      have K11 := Lib.hid (Ka.out.below hq11)
      have HCY11 := Lib.hid (HCYa.out.below hq11)
      have hz11 : w.heap.size ≤ w11.heap.size := HB11.out.size
      clear hb11 ho11 hc11 hA11 hq11 HBa HBr H16a H16r Ka Kr HCLa HCL HCYa HCYr HQ1 HQ2
      go_wp2_with (first
        | (go_at_call 17; refine (HLD.out _ _ _ _ _ _ _ (HL.out.below HB11.out) HQ111.out HQ211.out HC11.out).mono ?_; rintro r wc ⟨⟨BD, dD, rfl, hcD⟩, hbc⟩; have hzc := hbc.size; have HBc := Lib.hid (HB11.out.trans (hbc.mono hz11)); have HCD := Lib.hid hcD; have Kc := Lib.hid (K11.out.below hbc); have H16c := Lib.hid (H1611.out.below hbc); have HCYc := Lib.hid (HCY11.out.below hbc); clear hcD hbc)
        | (at_builtin; refine wpList_appC rfl _ _ rfl wc.heap.size k d7 _ os HOL.out.symm rfl rfl ⟨by simp, .inr ⟨_, 0, #[], rfl, Nat.le_refl _, by show (wc.heap.push _)[wc.heap.size]? = _; simp, Nat.le_refl _, Nat.zero_le _, by simp, by simp⟩⟩ (by omega) (HCYc.out.below ((Below.refl _ _).alloc (Nat.le_refl _) _)) ?_))
      intro B12 d12 w12 hb12 ho12
      obtain ⟨B12', d12', e12, -, hc12⟩ := own_ints ho12 HOL.out.symm
      cases e12
      have hA12 : Below wc.heap.size wc (wc.alloc (.cells #[] 3)) := (Below.refl _ _).alloc (Nat.le_refl _) _
      have hq12 : Below wc.heap.size wc w12 := hA12.trans (hb12.mono (by simp))
      have HC12 := Lib.hid hc12
      have HB12 := Lib.hid (HBc.out.trans (hq12.mono (by omega)))
      have H1612 := Lib.hid (H16c.out.below hq12)
      have K12 := Lib.hid (Kc.out.below hq12)
      have HCD12 := Lib.hid (HCD.out.below hq12)
      have hz12 : w.heap.size ≤ w12.heap.size := HB12.out.size
      clear hb12 ho12 hc12 hA12 hq12 HBc HB11 H16c H1611 Kc K11 HCYc HCY11 HCD HC11 HQ111 HQ211
      go_wp2_with (first
        | (go_at_call 18; refine (HEO.out _ _ _ HC12.out).mono ?_; rintro r wd ⟨rfl, hbd⟩; have hzd := hbd.size; have HBd := Lib.hid (HB12.out.trans (hbd.mono hz12)); have Kd := Lib.hid (K12.out.below hbd); have H16d := Lib.hid (H1612.out.below hbd); have HCDd := Lib.hid (HCD12.out.below hbd); clear hbd)
        | (at_builtin; refine wpList_appC rfl _ _ rfl wd.heap.size k dD BD ld HLDL.out.symm rfl rfl ⟨by simp, .inr ⟨_, 0, #[], rfl, Nat.le_refl _, by show (wd.heap.push _)[wd.heap.size]? = _; simp, Nat.le_refl _, Nat.zero_le _, by simp, by simp⟩⟩ (by omega) (HCDd.out.below ((Below.refl _ _).alloc (Nat.le_refl _) _)) ?_))
      intro B13 d13 w13 hb13 ho13
      obtain ⟨B13', d13', e13, -, hc13⟩ := own_ints ho13 HLDL.out.symm
      cases e13
      have hA13 : Below wd.heap.size wd (wd.alloc (.cells #[] 3)) := (Below.refl _ _).alloc (Nat.le_refl _) _
      have hq13 : Below wd.heap.size wd w13 := hA13.trans (hb13.mono (by simp))
      have HC13 := Lib.hid hc13
      have HB13 := Lib.hid (HBd.out.trans (hq13.mono (by omega)))
      have H1613 := Lib.hid (H16d.out.below hq13)
      have K13 := Lib.hid (Kd.out.below hq13)
      have HCD13 := Lib.hid (HCDd.out.below hq13)
      have hz13 : w.heap.size ≤ w13.heap.size := HB13.out.size
      clear hb13 ho13 hc13 hA13 hq13 HBd HB12 H16d H1612 Kd K12 HCDd HCD12 HC12
      go_wp2_with (go_at_call 18; refine (HEL.out _ _ _ HC13.out).mono ?_; rintro r we ⟨rfl, hbe⟩; refine Hid.out ?_)
      have hze := hbe.size
      have HBe := Lib.hid (HB13.out.trans (hbe.mono hz13))
      have Ke := Lib.hid (K13.out.below hbe)
      have H16e := Lib.hid (H1613.out.below hbe)
      have HCDe := Lib.hid (HCD13.out.below hbe)
      have hze2 : w.heap.size ≤ we.heap.size := HBe.out.size
      obtain ⟨c00, c01, c02, c03, c04, l0, f0⟩ := Ke.out.o5
      clear hbe HB13 H1613 K13 HCD13 HC13
      unfold Hid
      go_wp2_with (first
        | (go_at_call 13; refine (HDG.out _ (HT.out.below HBe.out) H16e.out).mono ?_; rintro r wf ⟨⟨B3, e3, B4, e4, rfl, q1, q2⟩, hbf⟩; have hzf := hbf.size; have HQ1 := Lib.hid q1; have HQ2 := Lib.hid q2; have HBf := Lib.hid (HBe.out.trans (hbf.mono hze2)); have Kf := Lib.hid (Ke.out.below hbf); have HCDf := Lib.hid (HCDe.out.below hbf); clear q1 q2 hbf c00 c01 c02 c03 c04 l0 f0)
        | (at_builtin; refine wpList_appC rfl _ _ rfl wf.heap.size k dD BD ld HLDL.out.symm rfl rfl ⟨by simp, .inr ⟨_, 0, #[], rfl, Nat.le_refl _, by show (wf.heap.push _)[wf.heap.size]? = _; simp, Nat.le_refl _, Nat.zero_le _, by simp, by simp⟩⟩ (by omega) (HCDf.out.below ((Below.refl _ _).alloc (Nat.le_refl _) _)) ?_))
      intro B14 d14 w14 hb14 ho14
      obtain ⟨B14', d14', e14, -, hc14⟩ := own_ints ho14 HLDL.out.symm
      cases e14
      have hA14 : Below wf.heap.size wf (wf.alloc (.cells #[] 3)) := (Below.refl _ _).alloc (Nat.le_refl _) _
      have hq14 : Below wf.heap.size wf w14 := hA14.trans (hb14.mono (by simp))
      have HC14 := Lib.hid hc14
      have HB14 := Lib.hid (HBf.out.trans (hq14.mono (by omega)))
      have HQ114 := Lib.hid (HQ1.out.below hq14)
      have HQ214 := Lib.hid (HQ2.out.below hq14)
      have K14 := Lib.hid (Kf.out.below hq14)
      have hz14 : w.heap.size ≤ w14.heap.size := HB14.out.size
      have le1 := HF1.out
      have le2 := HF2.out
      have le3 := HF3.out
      clear hb14 ho14 hc14 hA14 hq14 HBf HBe H16e Ke HCDf HCDe HQ1 HQ2 Kf
      go_wp2_with (first
        | (go_at_call 16; refine (HPK.out _ _ _ _ _ _ _ HQ114.out HQ214.out HC14.out).mono ?_; rintro r wg ⟨rfl, hbg⟩; have hzg := hbg.size; have HBg := Lib.hid (HB14.out.trans (hbg.mono hz14)); have Kg := Lib.hid (K14.out.below hbg); obtain ⟨c00, c01, c02, c03, c04, l0, f0⟩ := Kg.out.o5; have hz15 : w.heap.size ≤ wg.heap.size := HBg.out.size; clear hbg)
        | (go_at_call 9; refine (HAMP.out _ (HL.out.below (HBg.out.alloc hz15 _))).mono ?_; rintro r wh ⟨rfl, hbh⟩; have HBh := Lib.hid ((HBg.out.alloc hz15 _).trans (hbh.mono (by simp; omega)))))
      go_ret
      exact ⟨rfl, HBh.out⟩
end Go.Proofs.YtleemphfkhbhaaaDoor

/- TopDustLoud: whatever the arguments. -/
namespace Go.Proofs.YtleemphfkhbhaaaDoor
open Go.RowKit

theorem TopDustLoud_any (lk ht rc i0 i1 i2 i3 n : Int) (ts gs : List Int) (A1 A2 : Option Addr) (M L c1 c2 : Nat) (w : World) (hM : M = ts.length) (hLim : Lim w) (hT : Cells w A1 ts) (hn : 0 ≤ n ∧ n ≤ 255) :
    Calls Tryd.prog 4 #[.agg #[(.int .i64 (lk)), (.int .i64 (ht)), .slice A1 M c1, (.int .i64 (rc)), .slice A2 L c2], .agg #[(.int .i64 (i0)), (.int .i64 (i1)), (.int .i64 (i2)), (.int .i64 (i3))], .int .u8 n] w fun r w' => r = .returned (.bool true) ∧ Below w.heap.size w w' := by
  by_cases g0 : M ≤ 9
  · by_cases g1 : guardErr lk ht rc ts [0, 16] = 0
    · by_cases g2 : sigErr [i0, i1, i2, i3] = 0
      · exact loud_ok lk ht rc i0 i1 i2 i3 n ts A1 A2 M L c1 c2 w hM hLim hT g0 g1 g2 hn
      · exact loud_2 lk ht rc i0 i1 i2 i3 n ts A1 A2 M L c1 c2 w hM hLim hT g0 g1 g2
    · exact loud_1 lk ht rc i0 i1 i2 i3 n ts A1 A2 M L c1 c2 w hM hLim hT g0 g1
  · exact loud_0 lk ht rc i0 i1 i2 i3 n ts A1 A2 M L c1 c2 w hM hLim hT g0
end Go.Proofs.YtleemphfkhbhaaaDoor

/- TopDustLoud: the row and its card. -/
namespace Go.Proofs.YtleemphfkhbhaaaDoor.topDustLoud
open Go.ChangeShapes Go.WideShapes Go.ChangeAt Go.RowKit Go.Flat
open Calm (bcell)

theorem okWide_array {P : Program} {w : World} {r : Reach} {base : Nat} {t e : TypeId} {n : Nat} {v : Value} (ht : P.underlying t = some (.array n e)) (h : Value.okWide P w r base t v) : ∃ cs, v = .agg cs ∧ cs.size = P.cellsOf t := by
  simp only [Value.okWide, ht] at h
  obtain ⟨cs, h1, h2, _⟩ := h
  exact ⟨cs, h1, h2⟩
set_option maxRecDepth 100000 in
/-- an array of four integers, opened. -/
theorem open_four {H : Type} {enc : TypeId × Value → H} {w : World} {base : Nat} {r : Reach} {b0 : Nat} {sp : Nat → Bool} {held : Bool} {v : Value} {d : DataW H} {p : List MemPlace}
    (hv : Value.okWide Tryd.prog w r b0 49 v) (hd : DataW.Trod enc Tryd.prog w base sp held 49 v d p) :
    ∃ i0 i1 i2 i3 : Int, v = .agg #[(.int .i64 (i0)), (.int .i64 (i1)), (.int .i64 (i2)), (.int .i64 (i3))] ∧ p = [] := by
  obtain ⟨cs, rfl, hsz⟩ := okWide_array Tryd.underlying49 hv
  obtain ⟨fuel, hf⟩ := hd
  obtain ⟨h1, h2⟩ := Flat.cells_of_ints 3 (show Flat.intsB Tryd.prog 3 49 = true by kernel_rfl) hf
  rw [show Tryd.prog.cellsOf 49 = 4 by kernel_rfl] at hsz
  have hcs : cs.toList = (Flat.flat 3 d).map (Value.int .i64) := h1
  have hl : (Flat.flat 3 d).length = 4 := by
    have := congrArg List.length hcs
    simp at this
    omega
  match hz : Flat.flat 3 d, hl with
  | [i0, i1, i2, i3], _ =>
    rw [hz] at hcs
    refine ⟨i0, i1, i2, i3, ?_, h2⟩
    have e : cs = #[(.int .i64 (i0)), (.int .i64 (i1)), (.int .i64 (i2)), (.int .i64 (i3))] := Array.toList_inj.1 hcs
    rw [e]

set_option maxRecDepth 100000 in
theorem contract (H : Type) (enc : TypeId × Value → H) (W : World) (base : Nat) (args : Array Value) (ds gs : List (DataW H)) (before : List MemPlace)
    (hval : ∀ (j : Nat) t v, Tryd.f4.params[j]? = some t → args[j]? = some v → Value.okWide Tryd.prog W .any base t v)
    (hW : DataW.Whole enc Tryd.prog Tryd.f4.params.toList Rows.topDustLoudSpec.vars false W args.toList ds gs before) (hL : laidMetH Tryd.prog laidList W) :
    Calls Tryd.prog 4 args W fun e W' => ∃ v, e = .returned v ∧ Rows.topDustLoudSpec.post enc Tryd.prog Tryd.f4 false true false false W args v W' := by
  have hW' := hW
  have hlt : ∀ p ∈ before, p.block < W.heap.size := fun p hp => hW.lt p hp
  obtain ⟨p, q, hA0, hV, rfl, hfz, hnd⟩ := hW
  have hA : DataW.TrodAll enc Tryd.prog W 0 (fun _ => true) true Tryd.f4.params.toList args.toList ds p := hA0
  rw [Tryd.params4] at hA hval
  obtain ⟨v0, v1, v2, d0, d1, d2, p0, p1, p2, rfl, rfl, rfl, h0, h1, h2⟩ := trodAll_three hA
  obtain ⟨rfl, rfl⟩ := trodVars_none hV
  obtain ⟨lk, ht, rc, A1, A2, c1, c2, ts, qs, rfl, k1, k2⟩ := open_guard (hval 0 _ _ rfl rfl) h0
  obtain ⟨i0, i1, i2, i3, rfl, rfl⟩ := open_four (hval 1 _ _ rfl rfl) h1
  obtain ⟨n, rfl, rfl, rfl, wfn⟩ := open_int Tryd.underlying5 (hval 2 _ _ rfl rfl) h2
  refine (TopDustLoud_any lk ht rc i0 i1 i2 i3 n ts qs A1 A2 _ _ c1 c2 W rfl (lim_of_laid hL) k1 (bounds_u8 wfn)).mono fun e W' ⟨he, hb⟩ => ?_
  subst he
  refine ⟨_, rfl, post_of_below (pa := p0 ++ [] ++ []) (pv := []) hW' (fun _ _ _ => trodAll_cons_mk (shut_bool Tryd.underlying4 _) trodAll_mk0) (fun sp hs => ?_) (fun _ _ => rfl) rfl hb (ok_one (by kernel_rfl) rfl (okWide_bool_mk Tryd.underlying4 _))⟩
  exact trodAll_below laidOut hb (by rw [Tryd.params4]; exact of_decide_eq_true (by kernel_rfl)) hA0 (fun x hx => hlt x (List.mem_append_left _ hx)) (fun x hx => hs x (List.mem_append_left _ hx))

/-- the witness: nothing. -/
noncomputable def wit : Array Value := #[.agg #[(.int .i64 (0)), (.int .i64 (0)), .slice none 0 0, (.int .i64 (0)), .slice none 0 0], .agg #[(.int .i64 (0)), (.int .i64 (0)), (.int .i64 (0)), (.int .i64 (0))], .int .u8 0]
theorem reads (os : Os) {H : Type} (enc : TypeId × Value → H) : ∃ ds places, DataW.whole enc Tryd.prog ((World.doorLaid Tryd.prog 35 os).forCall (fun _ _ => 0) ⟨#[], wit, []⟩).memory Tryd.f4.params.toList Rows.topDustLoudSpec.vars false wit.toList 8 = some (ds, [], places) :=
  ⟨[.agg [.lit (.int .i64 0), .lit (.int .i64 0), .nil, .lit (.int .i64 0), .nil], .agg (List.replicate 4 (.lit (.int .i64 0))), .lit (.int .u8 0)], [], by kernel_rfl⟩

set_option maxRecDepth 100000 in
theorem lifted (os : Os) (started : os.Started) (H : Type) (enc : TypeId × Value → H) (F : Stop.Interp) :
    ReturnsInHanded {} Tryd.checked os 4 .any ((OpenSpec.ofChange Rows.topDustLoudSpec).preRow enc Tryd.prog Tryd.f4 Rows.topDustLoudRow.domain false Rows.topDustLoudRow.laid) (((OpenSpec.ofChange Rows.topDustLoudSpec).at F).post enc Tryd.prog Tryd.f4 false true false false) := by
  obtain ⟨ds, places, hx⟩ := reads os enc
  refine returnsInHanded_of_row (C := Tryd.checked) (s := OpenSpec.ofChange Rows.topDustLoudSpec) own started (by kernel_rfl) Tryd.func4
    (witness_row_at (enc := enc) (C := Tryd.checked) false (World.doorLaid Tryd.prog 35 os) wit rfl (door_vars os _) (door_rest os _) (by kernel_rfl)
      (OpenSpec.preRow_of_cond 8 hx (by kernel_rfl) (fun k hk => by cases hk) (by kernel_rfl) (laid_met os _))) ?_
  intro W base args ds gs before hval hW _ _ _ hL _ _
  exact contract H enc W base args ds gs before hval hW hL

theorem said : Rows.TopDustLoudSaid :=
  OpenClaim.holds_of_cond 4 Tryd.f4 rfl rfl rfl rfl rfl rfl rfl ⟨rfl, rfl, rfl, rfl, rfl⟩ rfl rfl rfl rfl rfl (by kernel_rfl) Tryd.func4 (by kernel_rfl)
    (of_decide_eq_true (by kernel_rfl)) (by unfold Func.isWrapper; first | (rw [if_pos (by decide +kernel)]; kernel_rfl) | (rw [if_neg (by decide +kernel)]; exact ⟨rfl, rfl⟩))
    (fun os started H enc _ F => by rw [OpenClaim.pre_eq_preRow]; exact lifted os started H enc F)

theorem plain (f : FuncId) (fn : Func) (hf : Tryd.pinned.checked.prog.funcNamed "woofer/woofertop.TopDustLoud" = some f) (hfn : Tryd.pinned.checked.prog.funcs[f]? = some fn) :
    false = Tryd.pinned.checked.prog.looks [] ∧ ∀ (j : Nat) t, fn.params[j]? = some t → Tryd.pinned.checked.prog.wantsStandIn t = false := by
  obtain rfl : f = 4 := Option.some.inj ((show Tryd.prog.funcNamed "woofer/woofertop.TopDustLoud" = some 4 by kernel_rfl).symm.trans hf) |>.symm
  obtain rfl : fn = Tryd.f4 := (Option.some.inj (Tryd.func4.symm.trans hfn)).symm
  refine ⟨by kernel_rfl, fun j t ht => ?_⟩
  rw [Tryd.params4] at ht
  have hall : ∀ t ∈ (#[24, 49, 5] : Array TypeId), Tryd.prog.wantsStandIn t = false := of_decide_eq_true (by kernel_rfl)
  exact hall t (Array.mem_of_getElem? ht)

theorem card : Rows.TopDustLoudCardSaid :=
  Claim7.holds_tied_plain_at .later [] _ _ _ _ said (fun _ h => by cases h) (by kernel_rfl) (fun _ h => by cases h) topDustLoud_row_tie rfl ⟨rfl, rfl⟩ (by kernel_rfl) rfl plain (by kernel_rfl)
end Go.Proofs.YtleemphfkhbhaaaDoor.topDustLoud
