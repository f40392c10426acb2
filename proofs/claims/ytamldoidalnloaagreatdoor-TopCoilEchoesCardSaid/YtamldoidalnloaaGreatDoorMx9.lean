/- Part 9 of the texts of the claim: Tg3, Tg5, Tg9, Th0. -/
import Derived.Test.YtamldoidalnloaaGreatDoorMx8
import Derived.Test.YtamldoidalnloaaGreatDoorMx5
import Derived.Lib.AppendStr
import Derived.Laws.BitsAllLaws
import Derived.Lib.SlBytesConst
import Derived.ArgAppend

/- signal: the convolution of two sequences; Convolve. -/
namespace Go.Proofs.YtamldoidalnloaaGreatDoor
open Go.RowKit
open Calm (bcell Blk)
/-- the result behind t products. -/
def pvA (a b : List Int) (L M t : Nat) : Array Value := cvA a b L (t / M) (t % M)
theorem pvA_size (a b : List Int) (L M t : Nat) : (pvA a b L M t).size = L := cvA_size _ _ _ _ _
theorem dmt {N M t : Nat} (h : t < N * M) : 0 < M ∧ t / M < N ∧ t % M < M := by
  have h0 : 0 < M := by
    rcases Nat.eq_zero_or_pos M with rfl | h1
    · simp at h
    · exact h1
  exact ⟨h0, (Nat.div_lt_iff_lt_mul h0).2 h, Nat.mod_lt _ h0⟩
theorem pvA_set (a b : List Int) (L N M t : Nat) (hM : M = b.length) (hL : L = N + M - 1) (ht : t < N * M) :
    (pvA a b L M t).setIfInBounds (t / M + t % M) (.int .i64 (cvV a b (t / M) (t % M) (t / M + t % M) + a.getD (t / M) 0 * b.getD (t % M) 0)) = pvA a b L M (t + 1) := by
  obtain ⟨h0, h1, h2⟩ := dmt ht
  unfold pvA
  rw [cvA_set a b L (t / M) (t % M) (by omega)]
  have e : M * (t / M) + t % M = t := Nat.div_add_mod t M
  rw [Nat.mul_comm] at e
  by_cases hk : t % M + 1 < M
  · have := dm (M := M) (i := t / M) (k := t % M + 1) hk
    rw [← Nat.add_assoc, e] at this
    rw [this.1, this.2]
  · have := dm (M := M) (i := t / M + 1) (k := 0) h0
    rw [Nat.add_mul, Nat.one_mul, Nat.add_zero, show t / M * M + M = t + 1 by omega] at this
    rw [this.1, this.2, show t % M + 1 = b.length by omega]
    exact cvA_row a b L (t / M)
theorem pvA_zero (a b : List Int) (L M : Nat) : pvA a b L M 0 = (zerosA L).toArray := by
  unfold pvA
  rw [Nat.zero_div, Nat.zero_mod]
  exact cvA_zero a b L
theorem pvA_end (a b : List Int) (N M : Nat) (hN : N = a.length) (hM : M = b.length) : pvA a b (lenC N M) M (N * M) = ((conv a b).map (Value.int .i64)).toArray ∧ (conv a b).length = lenC N M := by
  by_cases h : N = 0 ∨ M = 0
  · have e : conv a b = [] := by unfold conv; rw [if_pos (by omega)]
    have e2 : lenC N M = 0 := if_pos h
    rw [e, e2]
    exact ⟨by unfold pvA cvA; simp, rfl⟩
  · have e2 : lenC N M = N + M - 1 := if_neg h
    rw [e2]
    refine ⟨?_, by rw [conv_len, if_neg (by omega)]; omega⟩
    have := dm (M := M) (i := N) (k := 0) (by omega)
    rw [Nat.add_zero] at this
    unfold pvA
    rw [this.1, this.2, hN, hM]
    exact cvA_end a b (by omega) (by omega)
set_option maxRecDepth 100000 in
set_option maxHeartbeats 8000000 in
theorem gConvolved_any (a b : List Int) (A B : Option Addr) (N M ca cb : Nat) (w : World) (hN : N = a.length) (hM : M = b.length) (hN5 : N ≤ 2000) (hM5 : M ≤ 2000) (ha : lvls a) (hb : lvls b) (hA : Cells w A a) (hB : Cells w B b) :
    Calls Tryz.prog 66 #[.slice A N ca, .slice B M cb] w fun r w' => ∃ v, r = .returned v ∧ FS w.heap.size (conv a b) v w' ∧ Below w.heap.size w w' := by
  have hfn : ∀ f, Fence.wide.fn f = True := fun _ => rfl
  obtain ⟨L, hL⟩ : ∃ L, L = lenC N M := ⟨_, rfl⟩
  have hL5 : L ≤ 4000 := by rw [hL]; unfold lenC; split <;> omega
  have HLE : Hid (∀ W, Calls Tryz.prog 63 #[.slice A N ca, .slice B M cb] W fun r w' => r = .returned (.int .i64 ((L : Int))) ∧ W = w') := Lib.hid (fun W => by rw [hL]; exact gLength_any A B N M ca cb W (by omega) (by omega))
  have HMK : ∀ W : World, Sem.run Tryz.prog (Instr.makeSlice 44 (.int .i64 ((L : Int))) (.int .i64 ((L : Int)))) W = .ok (.slice (some ⟨W.heap.size, 0, none⟩) L L) (W.alloc (.cells (pvA a b L M 0) 3)) := fun W => by rw [pvA_zero]; exact mk_ints L (by omega) W
  have HIT : Hid (∀ (W : World) (Pa Pb sb m : Nat), Cells W A a → Cells W B b → Blk W Pa #[.slice A N ca] → Blk W Pb #[.slice B M cb] → (0 < a.length → Off sb A) → (0 < b.length → Off sb B) → Pa ≠ sb → Pb ≠ sb → 1 ≤ m → IterR Fence.wide m Tryz.prog 98 #[.pointer (some ⟨Pa, 0, none⟩), .pointer (some ⟨Pb, 0, none⟩)] 2 (ProdR a b M) (List.range (N * M)) (Rest sb W.heap.size) W) := Lib.hid (fun W Pa Pb sb m q1 q2 q3 q4 q5 q6 q7 q8 q9 => products1_iter a b A B N M ca cb Pa Pb sb W m hN hM (by omega) (by omega) ha hb q1 q2 q3 q4 q5 q6 q7 q8 q9)
  have HLT : Hid (∀ t, t < N * M → t / M + t % M < L) := Lib.hid (fun t ht => by
    obtain ⟨h0, h1, h2⟩ := dmt ht
    generalize t / M = i at h1 ⊢
    generalize t % M = k at h2 ⊢
    rw [hL]; unfold lenC; rw [if_neg (by omega)]; omega)
  have HST : Hid (∀ t, t < N * M → (pvA a b L M t).setIfInBounds (t / M + t % M) (.int .i64 (cvV a b (t / M) (t % M) (t / M + t % M) + a.getD (t / M) 0 * b.getD (t % M) 0)) = pvA a b L M (t + 1)) := Lib.hid (fun t ht => by
    obtain ⟨h0, h1, h2⟩ := dmt ht
    have h3 : 0 < N := Nat.lt_of_le_of_lt (Nat.zero_le _) h1
    exact pvA_set a b L N M t hM (by rw [hL]; unfold lenC; rw [if_neg (by omega)]) ht)
  have HGT : Hid (∀ t, t < N * M → (pvA a b L M t)[t / M + t % M]? = some (.int .i64 (cvV a b (t / M) (t % M) (t / M + t % M)))) := Lib.hid (fun t ht => cvA_get (HLT.out t ht))
  have HBD : Hid (∀ t, t < N * M → -2251799813685248 ≤ cvV a b (t / M) (t % M) (t / M + t % M) ∧ cvV a b (t / M) (t % M) (t / M + t % M) ≤ 2251799813685248) := Lib.hid (fun t ht => by
    obtain ⟨h0, h1, h2⟩ := dmt ht
    have := cvAt_bd ha hb (t / M + t % M) (t / M)
    unfold cvV
    rw [if_neg (by omega)]
    omega)
  have HPB : Hid (∀ t, -1099511627776 ≤ a.getD (t / M) 0 * b.getD (t % M) 0 ∧ a.getD (t / M) 0 * b.getD (t % M) 0 ≤ 1099511627776) := Lib.hid (fun t => prod_bd (lvl_get ha _) (lvl_get hb _))
  have HEND : Hid (pvA a b L M (N * M) = ((conv a b).map (Value.int .i64)).toArray ∧ (conv a b).length = L) := Lib.hid (by rw [hL]; exact pvA_end a b N M hN hM)
  have HSZ : Hid (∀ t, (pvA a b L M t).size = L) := Lib.hid (fun t => pvA_size a b L M t)
  have HA := Lib.hid hA
  have HB := Lib.hid hB
  clear hA hB ha hb hN hM hL
  refine (callsIn_wide (n := 10)).1 ?_
  refine callsIn_of_wp_marks Tryz.func66 rfl trivial ?_ rfl
  simp only [Tryz.ntmps66, List.size_toArray, List.length_cons, List.length_nil, Nat.reduceAdd, Nat.reduceSub, Array.replicate_succ, Array.replicate_zero, List.push_toArray, List.append_toArray, List.nil_append, List.cons_append]
  gi_wp2_with (first
    | (gi_at_call 63; refine callsIn_wide.2 ?_; refine (HLE.out _).mono ?_; rintro r wx ⟨rfl, rfl⟩)
    | (gi_at_call 80; refine callsIn_wide.2 ?_; refine name_calls ?_; intro w1 e1; refine Hid.out ?_))
  unfold Hid
  have h1 : Below w.heap.size w w1 := by rw [e1]; exact bel
  have KO : Blk w1 w.heap.size (pvA a b L M 0) := by rw [e1]; (repeat (first | ((with_reducible refine Blk.at_ ?_); focus (first | rfl | (simp; done) | (simp; omega))) | (with_reducible refine Blk.alloc ?_ _) | (with_reducible refine Blk.below ?_ (by with_reducible assumption)) | (with_reducible refine Blk.drew ?_)))
  have KV : Blk w1 (w.heap.size + 1) #[.slice (some ⟨w.heap.size, 0, none⟩) L L] := by rw [e1]; (repeat (first | ((with_reducible refine Blk.at_ ?_); focus (first | rfl | (simp; done) | (simp; omega))) | (with_reducible refine Blk.alloc ?_ _) | (with_reducible refine Blk.below ?_ (by with_reducible assumption)) | (with_reducible refine Blk.drew ?_)))
  have HB1 := Lib.hid h1
  have HK1 := Lib.hid (show Blk w1 w.heap.size (pvA a b L M 0) ∧ Blk w1 (w.heap.size + 1) #[.slice (some ⟨w.heap.size, 0, none⟩) L L] from ⟨KO, KV⟩)
  have hz1 : w.heap.size + 1 < w1.heap.size := KV.lt
  clear e1 h1 KO KV
  refine (products_any A B N M ca cb w1).mono ?_
  rintro r w2 ⟨rfl, h2, kA, kB, hz2⟩
  have HB2 := Lib.hid (HB1.out.trans (h2.mono HB1.out.size))
  have HK2 := Lib.hid (show Blk w2 w.heap.size (pvA a b L M 0) ∧ Blk w2 (w.heap.size + 1) #[.slice (some ⟨w.heap.size, 0, none⟩) L L] from ⟨HK1.out.1.below h2, HK1.out.2.below h2⟩)
  have HIT2 := Lib.hid (HIT.out w2 w1.heap.size (w1.heap.size + 1) w.heap.size (10 - 1) (HA.out.below HB2.out) (HB.out.below HB2.out) kA kB (HA.out.off (Nat.le_refl _)) (HB.out.off (Nat.le_refl _)) (by omega) (by omega) (by decide))
  clear h2 kA kB HIT
  gi_wp2
  have hIO : OwnFrom w2.heap.size (fun (pre : List Nat) W => Blk W w.heap.size (pvA a b L M pre.length) ∧ (Blk W (w.heap.size + 1) #[.slice (some ⟨w.heap.size, 0, none⟩) L L] ∧ Below w.heap.size w W)) :=
    OwnFrom.and (blk_own _ _ (by omega) _) (OwnFrom.and (blk_own _ _ (by omega) _) (ownFrom_below (Nat.le_refl _) (by omega)))
  have HIO := Lib.hid hIO
  refine range_iterR (F := Fence.wide) (n := 10) rfl (by decide) (gf := 98) (lb := #[.pointer (some ⟨w1.heap.size, 0, none⟩), .pointer (some ⟨w1.heap.size + 1, 0, none⟩)]) rfl trivial (enters_of Tryz.func98 (by kernel_rfl) rfl)
    (all := List.range (N * M)) (R := ProdR a b M) (C := Rest w.heap.size w2.heap.size) (fun k hk => hk.1) HIT2.out
    _ hIO ⟨HK2.out.1, HK2.out.2, HB2.out⟩
    (fun (pre : List Nat) (x : Nat) (a' : Act) (W : World) => (Blk W w.heap.size (pvA a b L M pre.length) ∧ (Blk W (w.heap.size + 1) #[.slice (some ⟨w.heap.size, 0, none⟩) L L] ∧ Below w.heap.size w W)) ∧ ∃ m y, m = x / M + x % M ∧ y = a.getD (x / M) 0 * b.getD (x % M) 0 ∧ a' = { tmps := #[.slice A N ca, .slice B M cb, undef, undef, .slice none 0 0, .pointer (some ⟨w.heap.size + 1, 0, none⟩), (.int .i64 ((m : Int))), (.int .i64 y), .slice A N ca, .slice B M cb, (.int .i64 ((L : Int))), .slice (some ⟨w.heap.size, 0, none⟩) L L, .slice A N ca, .slice B M cb, .func (.func 98) #[] #[.pointer (some ⟨w1.heap.size, 0, none⟩), .pointer (some ⟨w1.heap.size + 1, 0, none⟩)], (.int .i64 ((m : Int))), (.int .i64 y), undef, undef, undef, undef, undef, undef, undef, undef], defers := [] })
    ?hax ?assign ?body ?done
  case assign =>
    rintro r pre x v W hi hpost hsz hcb hvs hbr
    have hbr' : v = #[(.int .i64 (((x / M : Nat) : Int) + ((x % M : Nat) : Int))), (.int .i64 (a.getD (x / M) 0 * b.getD (x % M) 0))] := hbr
    obtain ⟨m, hm⟩ : ∃ m, m = x / M + x % M := ⟨_, rfl⟩
    obtain ⟨y, hy⟩ : ∃ y, y = a.getD (x / M) 0 * b.getD (x % M) 0 := ⟨_, rfl⟩
    rw [← hy, ← Int.natCast_add, ← hm] at hbr'
    subst hbr'
    have HM := Lib.hid hm
    have HY := Lib.hid hy
    have hsem : ∀ (ρ : Operand → Value) (o : Oper), (∀ c, o.op ≠ .defer c) → Oper.semAt (some r) ρ o = execOp ρ o := Oper.semAt_some r
    have HI := Lib.hid hi
    clear hi hIO hcb hm hy hbr hvs
    gi_wp2
    exact ⟨Same.refl _ _, HI.out, m, y, HM.out, HY.out, rfl⟩
  case hax =>
    rintro pre x a' u X Y row ⟨hi, m, y, h1, h2, h3⟩ hg hrow
    exact ⟨HIO.out pre X Y row hi hg hrow, m, y, h1, h2, h3⟩
  case body =>
    rintro r pre x a' W ⟨⟨kO, kV, hB⟩, m, y, hm, hy, rfl⟩ hpost hsz hcb
    have hsem : ∀ (ρ : Operand → Value) (o : Oper), (∀ c, o.op ≠ .defer c) → Oper.semAt (some r) ρ o = execOp ρ o := Oper.semAt_some r
    obtain ⟨hx, hpl⟩ := range_pre hpost
    rw [hpl] at kO
    have hgt := HGT.out x hx
    have hvb := HBD.out x hx
    have hyb := HPB.out x
    have hst := HST.out x hx
    have hml := HLT.out x hx
    rw [← hm] at hgt hst hml hvb
    rw [← hy] at hst hyb
    obtain ⟨V, hV⟩ : ∃ V, V = cvV a b (x / M) (x % M) m := ⟨_, rfl⟩
    rw [← hV] at hgt hst hvb
    have hv0 : W.cell? ⟨w.heap.size, m, none⟩ = some (.int .i64 V) := by rw [kO.c]; exact hgt
    have hmi : (m : Int) < (L : Int) := by omega
    have kol := kO.lt
    have kof := kO.f
    obtain ⟨q0, ql, qf⟩ := kV.o1
    have HKO := Lib.hid kO
    have HKV := Lib.hid kV
    have HBW := Lib.hid hB
    have HS := Lib.hid hst
    have HPL : Hid ((pre ++ [x]).length = x + 1) := Lib.hid (by simp [hpl])
    clear kO kV hB hpost hcb hIO hm hy hV hgt hst hpl
    gi_wp2
    refine ⟨fun j o' hj ho => ?_, ?_, ?_, ?_⟩
    · have hj0 : j ≠ w.heap.size := by
        rcases hj with hj | rfl | rfl
        · exact hj.2
        · omega
        · omega
      rw [Below.heap_setCell _ _ _ _ hj0]
      exact ho
    · rw [HPL.out]
      have q := HKO.out.set (i := m) (by rw [HSZ.out]; exact hml) (.int .i64 (V + y))
      rw [HS.out] at q
      exact q
    · exact HKV.out.far (by simp) _
    · exact HBW.out.setCell (Nat.le_refl _) _
  case done =>
    rintro W ⟨kO, kV, hB⟩ hdef
    rw [List.length_range] at kO
    rw [HEND.out.1] at kO
    have HCO := Lib.hid (Cells.blk kO rfl)
    have HBW := Lib.hid hB
    have HDEF := Lib.hid hdef
    obtain ⟨q0, ql, qf⟩ := kV.o1
    clear kO kV hB hdef hIO
    gi_wp2
    refine ⟨by simp, .inl ⟨_, _, rfl, run_takeDeferred HDEF.out, ?_⟩⟩
    have B9 := HBW.out.trans (belowK_b (w := w) (Nat.le_refl _) W w2.heap.size (.deferred (some [])) (.deferred none) (by omega) HDEF.out rfl rfl)
    refine ⟨.slice (some ⟨w.heap.size, 0, none⟩) L L, by simp [results, Tryz.results66, go_sem], _, rfl, ⟨_, L, by rw [HEND.out.2], HCO.out.undefer HDEF.out, by rintro p ⟨⟩; exact Nat.le_refl _⟩, B9⟩
end Go.Proofs.YtamldoidalnloaaGreatDoor

/- signal: Convolve of two sequences that hold. -/
namespace Go.Proofs.YtamldoidalnloaaGreatDoor
open Go.RowKit
open Calm (bcell Blk)
set_option maxRecDepth 100000 in
set_option maxHeartbeats 4000000 in
theorem gConvolve0_ok (a b : List Int) (A B : Option Addr) (N M ca cb : Nat) (w : World) (hN : N = a.length) (hM : M = b.length) (hN5 : N ≤ 2000) (hM5 : M ≤ 2000) (ha : lvls a) (hb : lvls b) (hl : lvls (conv a b)) (hA : Cells w A a) (hB : Cells w B b) :
    Calls Tryz.prog 45 #[.slice A N ca, .slice B M cb, .bool false] w fun r w' => ∃ v, r = .returned (.tuple #[v, (.int .i64 0)]) ∧ FS w.heap.size (conv a b) v w' ∧ Below w.heap.size w w' := by
  have HSA : Hid (∀ W, Cells W A a → Calls Tryz.prog 62 #[.slice A N ca] W fun r w' => r = .returned (.int .i64 0) ∧ Below W.heap.size W w') := Lib.hid (fun W q => gSequence_ok a A ca N W hN q (by omega) ha)
  have HSB : Hid (∀ W, Cells W B b → Calls Tryz.prog 62 #[.slice B M cb] W fun r w' => r = .returned (.int .i64 0) ∧ Below W.heap.size W w') := Lib.hid (fun W q => gSequence_ok b B cb M W hM q (by omega) hb)
  obtain ⟨L, hL⟩ : ∃ L, L = lenC N M := ⟨_, rfl⟩
  have hcl : (conv a b).length = L := by rw [hL, (pvA_end a b N M hN hM).2]
  have hL5 : L ≤ 4000 := by rw [hL]; unfold lenC; split <;> omega
  have HLE : Hid (∀ W, Calls Tryz.prog 63 #[.slice A N ca, .slice B M cb] W fun r w' => r = .returned (.int .i64 ((L : Int))) ∧ W = w') := Lib.hid (fun W => by rw [hL]; exact gLength_any A B N M ca cb W (by omega) (by omega))
  have HCV : Hid (∀ W, Cells W A a → Cells W B b → Calls Tryz.prog 66 #[.slice A N ca, .slice B M cb] W fun r w' => (∃ D d, r = .returned (.slice D L d) ∧ Cells w' D (conv a b) ∧ ∀ p, D = some p → W.heap.size ≤ p.block) ∧ Below W.heap.size W w') := Lib.hid (fun W q1 q2 => by
    refine (gConvolved_any a b A B N M ca cb W hN hM hN5 hM5 ha hb q1 q2).mono ?_
    rintro r w' ⟨v, rfl, ⟨D, d, rfl, h1, h2⟩, h3⟩
    exact ⟨⟨D, d, by rw [hcl], h1, h2⟩, h3⟩)
  have HSC : Hid (∀ W D d, Cells W D (conv a b) → Calls Tryz.prog 62 #[.slice D L d] W fun r w' => r = .returned (.int .i64 0) ∧ Below W.heap.size W w') := Lib.hid (fun W D d q => gSequence_ok (conv a b) D d L W hcl.symm q (by omega) hl)
  have HF3 : Hid (∀ (W : World), Calls Tryz.prog 24 #[.slice (some ⟨W.heap.size, 0, none⟩) 3 3] (W.alloc (.cells #[(.int .i64 0), (.int .i64 0), (.int .i64 0)] 31)) fun r w' => r = .returned (.int .i64 0) ∧ (W.alloc (.cells #[(.int .i64 0), (.int .i64 0), (.int .i64 0)] 31)) = w') := Lib.hid (fun W => gFirst_cells [0, 0, 0] W (by simp))
  have hgt : decide ((4096 : Int) < (L : Int)) = false := decide_eq_false (by omega)
  have HA := Lib.hid hA
  have HB := Lib.hid hB
  have HCL := Lib.hid hcl
  clear hA hB ha hb hl hN hM hL hcl
  go_enter Tryz.func45, Tryz.ntmps45
  go_wp2_with (go_at_call 62; refine (HSA.out w HA.out).mono ?_; rintro r w1 ⟨rfl, h1⟩; refine Hid.out ?_)
  unfold Hid
  have HB1 := Lib.hid h1
  clear h1
  go_wp2_with (go_at_call 62; refine (HSB.out w1 (HB.out.below HB1.out)).mono ?_; rintro r w2 ⟨rfl, h2⟩; refine Hid.out ?_)
  unfold Hid
  have HB2 := Lib.hid (HB1.out.trans (h2.mono HB1.out.size))
  clear h2
  go_wp2_with (first
    | (go_at_call 63; refine (HLE.out _).mono ?_; rintro r wx ⟨rfl, rfl⟩)
    | (go_at_call 27; refine (gWhen_any _ _ _).mono ?_; rintro r wx ⟨rfl, rfl⟩)
    | (go_at_call 24; refine (HF3.out _).mono ?_; rintro r wx ⟨rfl, rfl⟩)
    | (go_at_call 66; refine name_calls ?_; intro w3 e3; refine Hid.out ?_))
  unfold Hid
  have h3 : Below w2.heap.size w2 w3 := by rw [e3]; exact bel
  have HB3 := Lib.hid (HB2.out.trans (h3.mono HB2.out.size))
  clear e3 h3
  refine (HCV.out w3 (HA.out.below HB3.out) (HB.out.below HB3.out)).mono ?_
  rintro r w4 ⟨⟨D, d, rfl, hD, hf⟩, h4⟩
  have HB4 := Lib.hid (HB3.out.trans (h4.mono HB3.out.size))
  have HD := Lib.hid hD
  have HF : Hid (∀ p, D = some p → w.heap.size ≤ p.block) := Lib.hid (fun p hp => Nat.le_trans HB3.out.size (hf p hp))
  clear h4 hD hf
  go_wp2_with (go_at_call 62; refine (HSC.out w4 D d HD.out).mono ?_; rintro r w5 ⟨rfl, h5⟩; refine Hid.out ?_)
  unfold Hid
  have HB5 := Lib.hid (HB4.out.trans (h5.mono HB4.out.size))
  have HD5 := Lib.hid (HD.out.below h5)
  clear h5
  go_wp2
  refine bodyPost_ret (v := .tuple #[.slice D L d, (.int .i64 0)]) (by simp [results, Tryz.results45, go_sem]) rfl ⟨_, rfl, ⟨D, d, by rw [HCL.out], HD5.out, HF.out⟩, HB5.out⟩
theorem gConvolve_ok (a b : List Int) (A B : Option Addr) (N M ca cb : Nat) (w : World) (hN : N = a.length) (hM : M = b.length) (hN5 : N ≤ 2000) (hM5 : M ≤ 2000) (ha : lvls a) (hb : lvls b) (hl : lvls (conv a b)) (hA : Cells w A a) (hB : Cells w B b) :
    Calls Tryz.prog 16 #[.slice A N ca, .slice B M cb] w fun r w' => ∃ v, r = .returned (.tuple #[v, (.int .i64 0)]) ∧ FS w.heap.size (conv a b) v w' ∧ Below w.heap.size w w' := by
  have HC := Lib.hid (gConvolve0_ok a b A B N M ca cb w hN hM hN5 hM5 ha hb hl hA hB)
  clear ha hb hl hA hB hN hM
  go_enter Tryz.func16, Tryz.ntmps16
  go_wp2_with (go_at_call 45; refine HC.out.mono ?_; rintro r w1 ⟨v, rfl, h1⟩; refine Hid.out ?_)
  unfold Hid
  have H1 := Lib.hid h1
  clear h1
  go_wp2
  refine bodyPost_ret (v := .tuple #[v, (.int .i64 0)]) (by simp [results, Tryz.results16, go_sem]) rfl ⟨_, rfl, H1.out⟩
end Go.Proofs.YtamldoidalnloaaGreatDoor

/- signal: the four bytes of a number: put, four. -/
namespace Go.Proofs.YtamldoidalnloaaGreatDoor
open Go.RowKit
open Calm (bcell Blk)
/-- the four bytes of a number, the highest one first. -/
def be4 (u : Int) : List Int := [u / 16777216 % 256, u / 65536 % 256, u / 256 % 256, u % 256]
theorem or32 (p q : Int) (k : Nat) (hp : 0 ≤ p) (hq : 0 ≤ q) (hk : q < 2 ^ k) (hm : p * 2 ^ k < 4294967296) (hq2 : q < 4294967296) : bits .or .u32 (p * 2 ^ k) q = p * 2 ^ k + q := by
  obtain ⟨a, rfl⟩ := Int.eq_ofNat_of_zero_le hp
  obtain ⟨b, rfl⟩ := Int.eq_ofNat_of_zero_le hq
  have e : ((a : Int) * 2 ^ k) = ((a * 2 ^ k : Nat) : Int) := by simp
  have hb : b < 2 ^ k := by
    have : ((b : Nat) : Int) < ((2 ^ k : Nat) : Int) := by simpa using hk
    exact Int.ofNat_lt.1 this
  rw [e] at hm ⊢
  rw [u32_or_nat _ _ (by omega) (by omega), ← Nat.shiftLeft_eq, ← Nat.shiftLeft_add_eq_or_of_lt hb]
  simp
theorem or4 (y0 y1 y2 y3 : Int) (b0 : 0 ≤ y0 ∧ y0 < 256) (b1 : 0 ≤ y1 ∧ y1 < 256) (b2 : 0 ≤ y2 ∧ y2 < 256) (b3 : 0 ≤ y3 ∧ y3 < 256) :
    bits .or .u32 (bits .or .u32 (bits .or .u32 (y0 * 16777216) (y1 * 65536)) (y2 * 256)) y3 = y0 * 16777216 + y1 * 65536 + y2 * 256 + y3 := by
  have e1 : bits .or .u32 (y0 * 16777216) (y1 * 65536) = y0 * 16777216 + y1 * 65536 := or32 y0 (y1 * 65536) 24 (by omega) (by omega) (by omega) (by omega) (by omega)
  have e2 : bits .or .u32 ((y0 * 256 + y1) * 65536) (y2 * 256) = (y0 * 256 + y1) * 65536 + y2 * 256 := or32 (y0 * 256 + y1) (y2 * 256) 16 (by omega) (by omega) (by omega) (by omega) (by omega)
  have e3 : bits .or .u32 ((y0 * 65536 + y1 * 256 + y2) * 256) y3 = (y0 * 65536 + y1 * 256 + y2) * 256 + y3 := or32 (y0 * 65536 + y1 * 256 + y2) y3 8 (by omega) (by omega) (by omega) (by omega) (by omega)
  rw [e1, show y0 * 16777216 + y1 * 65536 = (y0 * 256 + y1) * 65536 by omega, e2, show (y0 * 256 + y1) * 65536 + y2 * 256 = (y0 * 65536 + y1 * 256 + y2) * 256 by omega, e3]
set_option maxRecDepth 100000 in
set_option maxHeartbeats 4000000 in
theorem put_any (u : Int) (hu : 0 ≤ u ∧ u < 4294967296) (s : Value) (xs : List Int) (base : Nat) (w : World) (ho : w.ownsRow base 5 1 s xs.length (xs.map encB)) (hb : base ≤ w.heap.size) (h5 : xs.length ≤ 90000) :
    Calls Tryz.prog 31 #[s, .int .u32 u] w fun r w' => ∃ v, r = .returned v ∧ w'.ownsRow base 5 1 v (xs ++ be4 u).length ((xs ++ be4 u).map encB) ∧ Below base w w' := by
  have HO := Lib.hid ho
  have HB := Lib.hid hb
  clear ho hb
  go_enter Tryz.func31, Tryz.ntmps31
  go_wp2_with (at_builtin; refine name_list ?_; intro w1 e1; refine Hid.out ?_)
  unfold Hid
  have h1 : Below w.heap.size w w1 := by rw [e1]; exact bel
  have K1 : Blk w1 w.heap.size #[.int .u8 (u / 16777216 % 256), .int .u8 (u / 65536 % 256), .int .u8 (u / 256 % 256), .int .u8 (u % 256)] := by rw [e1, show u / 16777216 % 256 = u / 16777216 by omega]; (repeat (first | ((with_reducible refine Blk.at_ ?_); focus (first | rfl | (simp; done) | (simp; omega))) | (with_reducible refine Blk.alloc ?_ _) | (with_reducible refine Blk.below ?_ (by with_reducible assumption)) | (with_reducible refine Blk.drew ?_)))
  have HO1 := Lib.hid (ownsRow_below HO.out h1)
  have HB1 := Lib.hid (h1.mono HB.out)
  have hs1 : base ≤ w1.heap.size := Nat.le_trans HB.out h1.size
  have hEC : EC encB w1 (some ⟨w.heap.size, 0, none⟩) (be4 u) := EC.blk K1 rfl
  clear e1 h1 K1
  refine wpList_appE eB encB_one rfl _ _ rfl base s xs rfl HO1.out _ 4 4 (be4 u) rfl rfl hEC (by omega) hs1 ?_
  intro v' w2 ho2 hg2
  have HB2 := Lib.hid (HB1.out.grown hg2 hs1 (fun j hj => (HO1.out.lt j hj).1))
  have HO2 := Lib.hid ho2
  clear ho2 hg2 hEC
  go_wp2
  go_ret
  exact ⟨_, rfl, HO2.out, HB2.out⟩
set_option maxRecDepth 100000 in
set_option maxHeartbeats 4000000 in
theorem four_any (u : Int) (hu : 0 ≤ u ∧ u < 4294967296) (xs : List Int) (b o N c : Nat) (w : World) (hN : N = (be4 u ++ xs).length) (hC : EC encB w (some ⟨b, o, none⟩) (be4 u ++ xs)) :
    Calls Tryz.prog 33 #[.slice (some ⟨b, o, none⟩) N c] w fun r w' => r = .returned (.int .u32 u) ∧ Below w.heap.size w w' := by
  obtain ⟨b', o', e, hl, hc⟩ := hC (by simp [be4])
  cases e
  have l : (be4 u ++ xs).length = xs.length + 4 := by simp [be4]; 
  obtain ⟨y0, h0⟩ : ∃ y, y = u / 16777216 % 256 := ⟨_, rfl⟩
  obtain ⟨y1, h1⟩ : ∃ y, y = u / 65536 % 256 := ⟨_, rfl⟩
  obtain ⟨y2, h2⟩ : ∃ y, y = u / 256 % 256 := ⟨_, rfl⟩
  obtain ⟨y3, h3⟩ : ∃ y, y = u % 256 := ⟨_, rfl⟩
  have x0 : w.cell? ⟨b, o, none⟩ = some (.int .u8 y0) := by rw [h0]; exact hc 0 (by omega)
  have x1 : w.cell? ⟨b, o + 1, none⟩ = some (.int .u8 y1) := by rw [h1]; exact hc 1 (by omega)
  have x2 : w.cell? ⟨b, o + 2, none⟩ = some (.int .u8 y2) := by rw [h2]; exact hc 2 (by omega)
  have x3 : w.cell? ⟨b, o + 3, none⟩ = some (.int .u8 y3) := by rw [h3]; exact hc 3 (by omega)
  have b0 : 0 ≤ y0 ∧ y0 < 256 := by omega
  have b1 : 0 ≤ y1 ∧ y1 < 256 := by omega
  have b2 : 0 ≤ y2 ∧ y2 < 256 := by omega
  have b3 : 0 ≤ y3 ∧ y3 < 256 := by omega
  have n0 : 0 < N := by omega
  have n1 : 1 < N := by omega
  have n2 : 2 < N := by omega
  have n3 : 3 < N := by omega
  have hN0 : (0 : Int) < (N : Int) := by omega
  have hN1 : (1 : Int) < (N : Int) := by omega
  have hN2 : (2 : Int) < (N : Int) := by omega
  have hN3 : (3 : Int) < (N : Int) := by omega
  have HU := Lib.hid (show u = y0 * 16777216 + y1 * 65536 + y2 * 256 + y3 by omega)
  have HN := Lib.hid hN
  clear hC hc h0 h1 h2 h3 hN l
  go_enter Tryz.func33, Tryz.ntmps33
  go_wp2
  refine Calm.tail_below 22 (by kernel_rfl) (by kernel_rfl) ?_
  simp only [List.take_succ_cons, List.take_zero, List.drop_succ_cons, List.drop_zero]
  repeat (first | (apply Calm.op_move; (focus rfl); (focus (first | exact .inl rfl | exact .inr rfl)); (focus ((try simp only [Act.eval, Array.getD_eq_getD_getElem?, List.getElem?_toArray, List.getElem?_cons_succ, List.getElem?_cons_zero, Option.getD_some]); rfl)); (try simp only [Act.put, List.setIfInBounds_toArray, List.set_cons_zero, List.set_cons_succ])) | (apply Calm.op_not; (focus rfl); (try simp only [Act.put, List.setIfInBounds_toArray, List.set_cons_zero, List.set_cons_succ])) | (apply Calm.op; (focus rfl); (focus (intro W hb; obtain ⟨hc, hf⟩ := bcell hb; clear hb hf; go_simp; (try go_bits); (try rfl); done)); (try simp only [Act.put, List.setIfInBounds_toArray, List.set_cons_zero, List.set_cons_succ])))
  refine wpQuiet_nil ?_
  intro w2 hb2
  obtain ⟨hb2c, hb2f⟩ := bcell hb2
  have hb2z := hb2.size
  (try simp at hb2z)
  (try have hb2z0 : w.heap.size < w2.heap.size := by omega)
  (try have hb2z1 : w.heap.size + 1 < w2.heap.size := by omega)
  (try have hb2z2 : w.heap.size + 1 + 1 < w2.heap.size := by omega)
  (try have hb2z3 : w.heap.size + 1 + 1 + 1 < w2.heap.size := by omega)
  (try have hb2z4 : w.heap.size + 1 + 1 + 1 + 1 < w2.heap.size := by omega)
  (try have hb2z5 : w.heap.size + 1 + 1 + 1 + 1 + 1 < w2.heap.size := by omega)
  have HB2 := Lib.hid hb2
  have HV := Lib.hid (or4 y0 y1 y2 y3 b0 b1 b2 b3)
  clear x0 x1 x2 x3 b0 b1 b2 b3
  go_wp2
  go_ret
  exact ⟨by rw [HV.out, HU.out]; rfl, HB2.out⟩
end Go.Proofs.YtamldoidalnloaaGreatDoor

/- signal: Encode. -/
namespace Go.Proofs.YtamldoidalnloaaGreatDoor
open Go.RowKit
open Calm (bcell Blk)
/-- the bytes of a string. -/
def nmB (s : ByteArray) : List Int := s.data.toList.map fun b => ((b.toNat : Nat) : Int)
theorem nmB_len (s : ByteArray) : (nmB s).length = s.size := by unfold nmB; rw [List.length_map, Array.length_toList]; rfl
theorem nmB_cells (s : ByteArray) : Lib.strCells s = (nmB s).map encB := by
  unfold Lib.strCells nmB
  rw [List.map_map]
  rfl
theorem nmB_str (s : ByteArray) : strOfNums (nmB s) = s := by
  cases s with
  | mk d =>
    unfold strOfNums nmB
    rw [List.map_map]
    congr 1
    apply Array.ext_getElem?
    intro i
    cases h : d[i]? <;> simp [h]
/-- the stream of a record. -/
def strmH (nm : ByteArray) (rate : Int) (N : Nat) : List Int := [83, 78, 68, 82] ++ [(nm.size : Int)] ++ nmB nm ++ be4 rate ++ be4 (N : Int)
def strmT (l : List Int) : List Int := l.flatMap fun z => be4 ((fl z : Nat) : Int)
def strm (nm : ByteArray) (rate : Int) (l : List Int) : List Int := strmH nm rate l.length ++ strmT l
theorem be4_len (u : Int) : (be4 u).length = 4 := rfl
theorem strmT_len (l : List Int) : (strmT l).length = 4 * l.length := by
  unfold strmT
  induction l with
  | nil => rfl
  | cons a t ih => rw [List.flatMap_cons, List.length_append, ih, be4_len, List.length_cons]; omega
theorem strmH_len (nm : ByteArray) (rate : Int) (N : Nat) : (strmH nm rate N).length = nm.size + 13 := by
  unfold strmH
  simp only [List.length_append, nmB_len, be4_len, List.length_cons, List.length_nil]
  omega
theorem strmT_succ {l : List Int} {k : Nat} (hk : k < l.length) : strmT (l.take (k + 1)) = strmT (l.take k) ++ be4 ((fl (l.getD k 0) : Nat) : Int) := by
  unfold strmT
  rw [List.take_succ_eq_append_getElem hk, List.flatMap_append, List.getD_eq_getElem?_getD, List.getElem?_eq_getElem hk]
  simp
theorem bits32 (F : Nat) (W : World) : (callFunc 32 #[.float .f32 F]).run Tryz.prog W = .ok (.value (.int .u32 (F : Int))) W := by
  rw [run_callFunc_extern (e := Extern.MathFloatBits.float32bits) Tryz.func32 (by kernel_rfl) (by kernel_rfl) (by kernel_rfl) (by kernel_rfl)]
  rfl
theorem from32 (F : Nat) (W : World) : (callFunc 34 #[.int .u32 (F : Int)]).run Tryz.prog W = .ok (.value (.float .f32 F)) W := by
  rw [run_callFunc_extern (e := Extern.MathFloatBits.float32frombits) Tryz.func34 (by kernel_rfl) (by kernel_rfl) (by kernel_rfl) (by kernel_rfl)]
  rfl
set_option maxRecDepth 100000 in
set_option maxHeartbeats 8000000 in
theorem encode_ok (nm : ByteArray) (rate : Int) (l : List Int) (A : Option Addr) (c N : Nat) (w : World) (hnm : NmOk nm) (hr : 1 ≤ rate ∧ rate ≤ 192000) (hN : N = l.length) (hN5 : N ≤ 4096) (hl : flL l) (hC : EC encF w A l) :
    Calls Tryz.prog 11 #[.agg #[.string nm, (.int .i64 rate), .slice A N c]] w fun r w' => (∃ B d S, r = .returned (.tuple #[.slice B S d, (.int .i64 0)]) ∧ S = (strm nm rate l).length ∧ S ≤ d ∧ EC encB w' B (strm nm rate l) ∧ ∀ p, B = some p → w.heap.size ≤ p.block) ∧ Below w.heap.size w w' := by
  have HCR : Hid (∀ W, EC encF W A l → Calls Tryz.prog 25 #[.agg #[.string nm, (.int .i64 rate), .slice A N c]] W fun r w' => r = .returned (.int .i64 0) ∧ Below W.heap.size W w') := Lib.hid (fun W q => checkRecord_ok nm rate l A c N W hnm hr hN hN5 hl q)
  have hsz := hnm.len
  have kc := fun (w : World) (C : Array Value) (n c : Nat) => Lib.run_convert_bytes_const (P := Tryz.prog) w 36 5 C n c eB.u Tryz.underlying5
  have HC := Lib.hid hC
  have HN := Lib.hid hN
  have HL := Lib.hid hl
  clear hC hnm hN hl
  go_enter Tryz.func11, Tryz.ntmps11
  go_wp2_with (go_at_call 25; refine name_calls ?_; intro w1 e1; refine Hid.out ?_)
  unfold Hid
  have K0 : Blk w1 w.heap.size #[.string nm, (.int .i64 rate), .slice A N c] := by rw [e1]; (repeat (first | ((with_reducible refine Blk.at_ ?_); focus (first | rfl | (simp; done) | (simp; omega))) | (with_reducible refine Blk.alloc ?_ _) | (with_reducible refine Blk.below ?_ (by with_reducible assumption)) | (with_reducible refine Blk.drew ?_)))
  have HB1 := Lib.hid (show Below w.heap.size w w1 by rw [e1]; exact bel)
  clear e1
  refine (HCR.out w1 (HC.out.below HB1.out)).mono ?_
  rintro r w2 ⟨rfl, h2⟩
  have HB2 := Lib.hid (HB1.out.trans (h2.mono HB1.out.size))
  have HK2 := Lib.hid (K0.below h2)
  obtain ⟨a0, a1, a2, al, af⟩ := HK2.out.o3
  clear h2 K0
  go_wp2_with (at_builtin; refine name_list ?_; intro w3 e3; refine Hid.out ?_)
  unfold Hid
  have hg3 : w3.heap[w2.heap.size]? = some (.cells #[.int .u8 83, .int .u8 78, .int .u8 68, .int .u8 82] 5 (4, 5)) := by rw [e3]; exact (Below.heap_alloc _ _ _ (by simp)).trans (World.alloc_heap_new _ _)
  have hn3 : w3.heap[w2.heap.size + 1]? = some (.cells #[.int .u8 (nm.size : Int)] 5) := by
    rw [e3]
    have := World.alloc_heap_new (w2.alloc (.cells #[.int .u8 83, .int .u8 78, .int .u8 68, .int .u8 82] 5 (4, 5))) (.cells #[.int .u8 (nm.size : Int)] 5)
    rwa [World.size_alloc] at this
  have h3 : Below w2.heap.size w2 w3 := by rw [e3]; exact bel
  have HB3 := Lib.hid (HB2.out.trans (h3.mono HB2.out.size))
  have HK3 := Lib.hid (HK2.out.below h3)
  obtain ⟨i0, hi, hz0, hz1, hz2⟩ := info_parts eB.i
  clear e3 h3 a0 a1 a2 al af kc
  refine wpList_append_grows w3 rfl _ _ 36 rfl 5 i0 (.int .u8 0) 1 1 eB.u hi hz0 hz1 hz2 rfl (by decide) (some ⟨w2.heap.size, 0, none⟩) 4 4 ([83, 78, 68, 82].map encB) rfl (by simp) (by simp)
    (fun b hb j u hj => by cases hb; rw [Addr.add_lit, Nat.zero_add, cell_of_row _ _ _ _ _ _ hg3]; simpa [encB] using hj) ⟨w2.heap.size + 1, 0, none⟩ 1 1 [encB (nm.size : Int)] rfl rfl
    (fun j u hj => by rw [Addr.add_lit, Nat.zero_add, cell_of_row _ _ _ _ _ _ hn3]; simpa [encB] using hj) (fun u hu => by simp at hu; subst hu; rfl) (by decide) (by unfold maxLen; omega) (by omega) ?_
  intro v4 w4 ho4 hg4
  have h4 : Below w3.heap.size w3 w4 := ⟨hg4.os, hg4.tape, hg4.output, hg4.size, fun k hk => hg4.block k hk (by simp)⟩
  have HB4 := Lib.hid (HB3.out.trans (h4.mono HB3.out.size))
  have HK4 := Lib.hid (HK3.out.below h4)
  have hBz : w.heap.size + 1 ≤ w4.heap.size := HK4.out.lt
  have HO4 : Hid (w4.ownsRow (w.heap.size + 1) 5 1 v4 5 (([83, 78, 68, 82] ++ [(nm.size : Int)]).map encB)) := Lib.hid (ownsRow_base ho4 HK3.out.lt)
  obtain ⟨a0, a1, a2, al, af⟩ := HK4.out.o3
  have hs4 := HB4.out.size
  clear hg3 hn3 ho4 hg4 h4
  go_wp2_with (at_builtin; refine Hid.out ?_)
  unfold Hid
  refine Lib.wpList_append_own_string _ rfl _ _ 36 9 rfl (w.heap.size + 1) 5 i0 eB.u Tryz.underlying9 hi hz0 hz1 hz2 v4 5 _ rfl HO4.out nm rfl (by unfold maxLen; omega) (by omega) hBz ?_
  intro v5 w5 ho5 hg5 _
  have HB5 := Lib.hid (HB4.out.grown hg5 hs4 (fun j hj => Nat.le_of_succ_le (HO4.out.lt j hj).1))
  have hl5 : ([83, 78, 68, 82] ++ [(nm.size : Int)] ++ nmB nm).length = 5 + nm.size := by simp [nmB_len]; omega
  have HO5 : Hid (w5.ownsRow (w.heap.size + 1) 5 1 v5 ([83, 78, 68, 82] ++ [(nm.size : Int)] ++ nmB nm).length (([83, 78, 68, 82] ++ [(nm.size : Int)] ++ nmB nm).map encB)) := Lib.hid (by rw [hl5, List.map_append, ← nmB_cells]; exact ho5)
  obtain ⟨L5, hL5⟩ : ∃ L, L = [83, 78, 68, 82] ++ [(nm.size : Int)] ++ nmB nm := ⟨_, rfl⟩
  rw [← hL5] at hl5 HO5
  have HK5 := Lib.hid (grown_blk HK4.out hg5 (fun k hk => by have := (HO4.out.lt k hk).1; omega))
  have HL5 := Lib.hid hL5
  have hz5 : w.heap.size + 1 ≤ w5.heap.size := HK5.out.lt
  have hN0 : (0 : Int) ≤ (N : Int) ∧ (N : Int) < 4294967296 := by omega
  have hl5b : L5.length ≤ 29 := by omega
  clear ho5 hg5 a0 a1 a2 al af hi hz0 hz1 hz2 hL5 hl5
  obtain ⟨a0, a1, a2, al, af⟩ := HK5.out.o3
  go_wp2_with (go_at_call 31; refine (put_any rate (by omega) v5 L5 (w.heap.size + 1) w5 HO5.out hz5 (by omega)).mono ?_; rintro r w6 ⟨v6, rfl, ho6, h6⟩; refine Hid.out ?_)
  unfold Hid
  have HB6 := Lib.hid (HB5.out.trans (h6.mono (Nat.le_succ _)))
  have HK6 := Lib.hid (HK5.out.of_block (h6.block _ (Nat.lt_succ_self _)))
  have HO6 := Lib.hid ho6
  have hz6 : w.heap.size + 1 ≤ w6.heap.size := HK6.out.lt
  clear ho6 h6 a0 a1 a2 al af
  obtain ⟨a0, a1, a2, al, af⟩ := HK6.out.o3
  go_wp2_with (go_at_call 31; refine (put_any (N : Int) hN0 v6 (L5 ++ be4 rate) (w.heap.size + 1) w6 HO6.out hz6 (by rw [List.length_append, be4_len]; omega)).mono ?_; rintro r w7 ⟨v7, rfl, ho7, h7⟩; refine Hid.out ?_)
  unfold Hid
  have HB7 := Lib.hid (HB6.out.trans (h7.mono (Nat.le_succ _)))
  have HK7 := Lib.hid (HK6.out.of_block (h7.block _ (Nat.lt_succ_self _)))
  have hz7 : w.heap.size + 1 ≤ w7.heap.size := HK7.out.lt
  have HO7 : Hid (w7.ownsRow (w.heap.size + 1) 5 1 v7 (strmH nm rate N ++ strmT (l.take 0)).length ((strmH nm rate N ++ strmT (l.take 0)).map encB)) := Lib.hid (by
    have e : strmH nm rate N ++ strmT (l.take 0) = L5 ++ be4 rate ++ be4 (N : Int) := by rw [HL5.out]; simp [strmH, strmT]
    rw [e]; exact ho7)
  clear ho7 h7 a0 a1 a2 al af
  obtain ⟨a0, a1, a2, al, af⟩ := HK7.out.o3
  have HSL : Hid (∀ k, k ≤ N → (strmH nm rate N ++ strmT (l.take k)).length = nm.size + 13 + 4 * k) := Lib.hid (fun k hk => by rw [List.length_append, strmH_len, strmT_len, List.length_take, ← HN.out, Nat.min_eq_left hk])
  go_wp2
  go_loopw [5, 39] (fun s i wr => ∃ k : Nat, k ≤ N ∧ i = (.int .i64 ((k : Int))) ∧ wr.ownsRow (w.heap.size + 1) 5 1 s (strmH nm rate N ++ strmT (l.take k)).length ((strmH nm rate N ++ strmT (l.take k)).map encB) ∧ Below (w.heap.size + 1) w7 wr) (fun _ i _ => N - (intOf i).toNat)
  case atStart => exact ⟨0, Nat.zero_le _, rfl, HO7.out, Below.refl _ _⟩
  case round =>
    obtain ⟨k, hk, rfl, ho, hb⟩ := hrel
    have HO := Lib.hid ho
    have HBR := Lib.hid hb
    have HBW := Lib.hid (HB7.out.trans (hb.mono (Nat.le_succ _)))
    have hzr : w.heap.size + 1 ≤ wr.heap.size := Nat.le_trans hz7 hb.size
    clear ho hb a0 a1 a2 al af
    by_cases hlt : k < N
    · obtain ⟨b, o, rfl, l1, k1⟩ := HC.out (by rw [← HN.out]; omega)
      have x1 := (HBW.out.cell (p := ⟨b, o + k, none⟩) l1).trans (k1 k (by rw [← HN.out]; exact hlt))
      have hfl := HL.out.get (k := k) (by rw [← HN.out]; exact hlt)
      have q1 := fun W => hfl.radd W
      have q2 := fun W => bits32 (fl (l.getD k 0)) W
      have hF := hfl.lt
      have HS : Hid (strmH nm rate N ++ strmT (l.take (k + 1)) = strmH nm rate N ++ strmT (l.take k) ++ be4 ((fl (l.getD k 0) : Nat) : Int)) := Lib.hid (by rw [strmT_succ (by rw [← HN.out]; exact hlt), List.append_assoc])
      replace x1 : wr.cell? ⟨b, o + k, none⟩ = some (.float .f32 (fl (l.getD k 0))) := x1
      obtain ⟨F, hFF⟩ : ∃ F, F = fl (l.getD k 0) := ⟨_, rfl⟩
      rw [← hFF] at x1 hF HS
      simp only [← hFF] at q1 q2
      clear k1 hfl hFF
      have hSL := HSL.out k hk
      have hFi : (0 : Int) ≤ (F : Int) ∧ (F : Int) < 4294967296 := by omega
      have hSL2 : (strmH nm rate N ++ strmT (l.take k)).length ≤ 90000 := by omega
      obtain ⟨S, hS⟩ : ∃ S, S = strmH nm rate N ++ strmT (l.take k) := ⟨_, rfl⟩
      rw [← hS] at HS HO hSL2
      clear hS hSL
      go_wp2_with (go_at_call 31; refine (put_any (F : Int) hFi _ S (w.heap.size + 1) wr HO.out hzr hSL2).mono ?_; rintro r w8 ⟨v8, rfl, ho8, h8⟩; refine Hid.out ?_)
      unfold Hid
      have HB8 := Lib.hid (HBR.out.trans (h8.mono (Nat.le_refl _)))
      have HO8 := Lib.hid ho8
      clear ho8 h8
      go_wp2
      go_roundw
      case rel => exact ⟨k + 1, by omega, by go_num, by rw [HS.out]; exact HO8.out, HB8.out⟩
      case measure => simp [intOf]; omega
    · obtain rfl : k = N := by omega
      have hown := HO.out
      have e : strmH nm rate k ++ strmT (l.take k) = strm nm rate l := by rw [HN.out, List.take_length]; rfl
      rw [e] at hown
      obtain ⟨B, d, rfl, hge, hr⟩ := own_ec (enc := encB) hown rfl
      have HR := Lib.hid hr
      have HG := Lib.hid hge
      obtain ⟨S, hS⟩ : ∃ S, S = (strm nm rate l).length := ⟨_, rfl⟩
      rw [← hS]
      have HRM := Lib.hid (own_room (by rw [← hS] at hown; exact hown)).1
      have HS := Lib.hid hS
      clear hown hr hge e hS
      go_wp2
      refine bodyPost_ret (v := .tuple #[.slice B S d, (.int .i64 0)]) (by simp [results, Tryz.results11, go_sem]) rfl ⟨⟨B, d, S, rfl, HS.out, HRM.out, HR.out, fun p hp => Nat.le_of_succ_le (HG.out p hp)⟩, HBW.out⟩
end Go.Proofs.YtamldoidalnloaaGreatDoor
