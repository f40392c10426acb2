/- Part 14 of the texts of the claim: Tk1. -/
import Derived.Test.YtamldoidalnloaaGreatDoorMx13
import Derived.Test.YtamldoidalnloaaGreatDoorMx10

/- woofertop: TopCoilEchoes, its start (under way). -/
namespace Go.Proofs.YtamldoidalnloaaGreatDoor
open Go.RowKit
open Calm (bcell Blk)
set_option maxRecDepth 100000 in
set_option maxHeartbeats 8000000 in
theorem echoes_any (nm : ByteArray) (rate : Int) (bs : List Int) (A : Option Addr) (c N : Nat) (x y : Nat) (w : World) (hT : ETab w) (hN : N = bs.length) (hN6 : (N : Int) ≤ 9223372036854775807) (hb : bitsU bs) (hC : EC encU w A bs) (hx : x < 256) (hy : y < 256) :
    Calls Tryz.prog 3 #[.agg #[.string nm, (.int .i64 rate), .slice A N c], .agg #[.int .u8 (x : Int), .int .u8 (y : Int)]] w fun r w' => r = .returned (.bool true) ∧ Below w.heap.size w w' := by
  have HCE : Hid (∀ W, Below w.heap.size w W → Calls Tryz.prog 6 #[] W fun r w' => r = .returned (.bool true) ∧ Below W.heap.size W w') := Lib.hid (fun W h => coilEcho_ok W (hT.below h))
  have HTB : Hid (∀ W, Below w.heap.size w W → ETab W) := Lib.hid (fun W h => hT.below h)
  have HSH := Lib.hid (fun W => shortRecord_any nm rate A c N W hN6)
  have HRR : Hid (nm.size ≤ 60 → N ≤ 5000 → ∀ W, EC encU W A bs → Calls Tryz.prog 5 #[.agg #[.string nm, (.int .i64 rate), .slice A N c]] W fun r w' => SmRes (NmGood nm ∧ (1 ≤ rate ∧ rate ≤ 192000) ∧ N ≤ 4096 ∧ ∀ x ∈ bs, BitOk x.toNat) W r w') := Lib.hid (fun h1 h2 W q => refRecord_any nm rate bs A c N W (by omega) hN h2 hb q)
  have HC := Lib.hid hC
  have HN := Lib.hid hN
  have HXY := Lib.hid (And.intro hx hy)
  have HBU := Lib.hid hb
  clear hT hN hN6 hb hC hx hy
  go_enter Tryz.func3, Tryz.ntmps3
  go_wp2_with (go_at_call 4; refine name_calls ?_; intro w1 e1; refine Hid.out ?_)
  unfold Hid
  have KR := Lib.hid (show Blk w1 w.heap.size #[.string nm, (.int .i64 rate), .slice A N c] by rw [e1]; (repeat (first | ((with_reducible refine Blk.at_ ?_); focus (first | rfl | (simp; done) | (simp; omega))) | (with_reducible refine Blk.alloc ?_ _) | (with_reducible refine Blk.below ?_ (by with_reducible assumption)) | (with_reducible refine Blk.drew ?_))))
  have KA := Lib.hid (show Blk w1 (w.heap.size + 1) #[.int .u8 (x : Int), .int .u8 (y : Int)] by rw [e1]; (repeat (first | ((with_reducible refine Blk.at_ ?_); focus (first | rfl | (simp; done) | (simp; omega))) | (with_reducible refine Blk.alloc ?_ _) | (with_reducible refine Blk.below ?_ (by with_reducible assumption)) | (with_reducible refine Blk.drew ?_))))
  have HB := Lib.hid (show Below w.heap.size w w1 by rw [e1]; exact bel)
  clear e1
  refine (HSH.out w1).mono ?_
  rintro r w2 ⟨b1, rfl, hb1, h2⟩
  replace HB := Lib.hid (HB.out.trans (h2.mono HB.out.size))
  replace KR := Lib.hid (KR.out.below h2)
  replace KA := Lib.hid (KA.out.below h2)
  have HS1 := Lib.hid hb1
  clear h2 hb1
  obtain ⟨r0, r1, r2, rl, rf⟩ := KR.out.o3
  cases b1 with
  | false =>
    go_wp2_with (go_at_call 6; refine (HCE.out w2 HB.out).mono ?_; rintro r w3 ⟨rfl, h3⟩; refine Hid.out ?_)
    unfold Hid
    have HB3 := Lib.hid (HB.out.trans (h3.mono HB.out.size))
    clear h3 r0 r1 r2 rl rf
    go_wp2
    go_ret
    exact ⟨rfl, HB3.out⟩
  | true =>
    have hs := HS1.out rfl
    have HRC := Lib.hid (HRR.out hs.1 (by omega) w2 (HC.out.below HB.out))
    have HSZ := Lib.hid hs
    clear hs
    go_wp2_with (go_at_call 5; refine HRC.out.mono ?_; rintro r w3 ⟨e, rfl, he, h3⟩; have HE := Lib.hid he; have H3 := Lib.hid h3; clear he h3; refine Hid.out ?_)
    unfold Hid
    replace HB := Lib.hid (HB.out.trans (H3.out.mono HB.out.size))
    replace KR := Lib.hid (KR.out.below H3.out)
    replace KA := Lib.hid (KA.out.below H3.out)
    clear H3 r0 r1 r2 rl rf
    obtain ⟨r0, r1, r2, rl, rf⟩ := KR.out.o3
    by_cases h0 : e = 0
    · obtain ⟨hg, hr, hn4, hbo⟩ := HE.out h0
      have HG := Lib.hid hg
      have HR := Lib.hid hr
      have HBO := Lib.hid hbo
      subst h0
      have hN16 : N ≤ 16 := by have := HSZ.out.2; omega
      obtain ⟨l, l1, l2, l3⟩ := codes_of bs hbo HBU.out
      have HLN : Hid (N = l.length) := Lib.hid (by rw [HN.out, l1])
      have HOK := Lib.hid l2
      have HCR := Lib.hid ((HC.out.below HB.out).recode l1 l3)
      clear hg hr hn4 hbo l1 l2 l3
      go_wp2
      go_loop [57] (fun i => ∃ k : Nat, k ≤ N ∧ i = (.int .i64 ((k : Int))) ∧ ∀ j, j < k → -1024 ≤ vzR (l.getD j 0) ∧ vzR (l.getD j 0) ≤ 1024) (fun i => N - (intOf i).toNat)
      case atStart => exact ⟨0, Nat.zero_le _, rfl, fun j hj => absurd hj (by omega)⟩
      case round =>
        obtain ⟨k, hk, rfl, hsm⟩ := hrel
        have HSM := Lib.hid hsm
        clear hsm
        by_cases hlt : k < N
        · obtain ⟨b5, o5, rfl, l5, q5⟩ := HCR.out (by rw [← HLN.out]; omega)
          have x1 := q5 k (by rw [← HLN.out]; exact hlt)
          have hkl : k < l.length := by rw [← HLN.out]; exact hlt
          obtain ⟨M, hmx, hbd⟩ := max_abs (l.getD k 0) (HOK.out _ (by rw [List.getD_eq_getElem?_getD, List.getElem?_eq_getElem hkl]; exact List.getElem_mem hkl))
          have HNX : Hid ((FloatKind.f32.format.order M 1115684864 == some .gt) = false → ∀ j, j < k + 1 → -1024 ≤ vzR (l.getD j 0) ∧ vzR (l.getD j 0) ≤ 1024) := Lib.hid (fun h j hj => by
            by_cases e : j = k
            · subst e; exact hbd h
            · exact HSM.out j (by omega))
          replace x1 : w3.cell? ⟨b5, o5 + k, none⟩ = some (.float .f32 (xbR (l.getD k 0))) := x1
          generalize xbR (l.getD k 0) = X at x1 hmx
          have rneg : ∀ W, Sem.run Tryz.prog (Op.unary .neg (.float .f32 X)) W = .ok (.float .f32 (Op.negFloat .f32 X)) W := fun W => by simp [Op.unary]
          generalize Op.negFloat .f32 X = Y at hmx rneg
          clear q5 hbd
          cases c1 : (FloatKind.f32.format.order M 1115684864 == some .gt) with
          | true =>
            go_wp2_with (go_at_call 6; refine (HCE.out w3 HB.out).mono ?_; rintro r w4 ⟨rfl, h4⟩; refine Hid.out ?_)
            unfold Hid
            have HB4 := Lib.hid (HB.out.trans (h4.mono HB.out.size))
            clear h4 r0 r1 r2 rl rf x1
            go_wp2
            go_ret
            exact ⟨rfl, HB4.out⟩
          | false =>
            have HNY := Lib.hid (HNX.out c1)
            go_wp2
            go_round
            case rel => exact ⟨k + 1, by omega, by go_num, HNY.out⟩
            case measure => simp [intOf]; omega
        · obtain rfl : k = N := by omega
          have HQU : Hid (∀ j, -1024 ≤ vzR (l.getD j 0) ∧ vzR (l.getD j 0) ≤ 1024) := Lib.hid (fun j => by
            rcases Nat.lt_or_ge j k with h | h
            · exact HSM.out j h
            · rw [List.getD_eq_getElem?_getD, List.getElem?_eq_none (by rw [← HLN.out]; exact h)]; decide)
          obtain ⟨a0, a1, al, af⟩ := KA.out.o2
          obtain ⟨x1, x2⟩ := HXY.out
          obtain ⟨E, hE⟩ : ∃ E : Nat, E = y % 5 := ⟨_, rfl⟩
          obtain ⟨D, hD⟩ : ∃ D : Nat, D = 1 + x % 8 := ⟨_, rfl⟩
          obtain ⟨SZ, hSZ⟩ : ∃ SZ : Nat, SZ = 2 ^ E := ⟨_, rfl⟩
          have hE5 : E < 5 := by omega
          have r1 : (y : Int) % 5 = (E : Int) := by omega
          have r2 : 1 + (x : Int) % 8 = (D : Int) := by omega
          have rshl : ∀ W, (binOp .shl 3 (.int .i64 1) (.int .u8 ((y : Int) % 5))).run Tryz.prog W = .ok (.int .i64 ((SZ : Int))) W := fun W => by
            rw [hSZ, r1]
            have : E = 0 ∨ E = 1 ∨ E = 2 ∨ E = 3 ∨ E = 4 := by omega
            clear r1 hE
            rcases this with h | h | h | h | h <;> subst h <;> simp [binOp, go_sem] <;> first | done | rfl
          have HED := Lib.hid (And.intro hE5 (And.intro hD (And.intro hSZ r2)))
          have HSW : Hid (wrap64 (2 ^ (y % 5)) = (SZ : Int)) := Lib.hid (by
            rw [← hE, hSZ]
            have : E = 0 ∨ E = 1 ∨ E = 2 ∨ E = 3 ∨ E = 4 := by omega
            clear r1 hE
            rcases this with h | h | h | h | h <;> rw [h] <;> exact Go.IntWalk.wrap64_in _ (by decide))
          clear hk hlt hE hD hSZ r1 r2
          go_wp2
          refine Rel.region3 10 (by kernel_rfl) (by kernel_rfl) (by kernel_rfl) ?_
          simp only [List.take_succ_cons, List.take_zero, List.drop_succ_cons, List.drop_zero, List.filterMap_cons, List.filterMap_nil]
          iterate 10 (apply Rel.op3; (focus (first | exact Rel.gno rfl | exact Rel.gyes _ true _ rfl rfl rfl | exact Rel.gyes _ false _ rfl rfl rfl)); (focus (intro a W hb hd hbase; obtain ⟨hc, hf⟩ := bcell hb; clear hb hf; simp [Rel.deps, Rel.dep1, Rel.ons, Region.binds, Act.eval] at hd; simp only [Act.eval, List.mem_cons, List.not_mem_nil, not_or, and_imp, or_false, Array.getD_eq_getD_getElem?] at hbase; go_simp; (try go_bits); (try rfl); done)); (try simp only [List.nil_append, List.cons_append]))
          refine Rel.done3 ?_
          intro x w4 hb4 hx
          simp only [Rel.facts, Nat.zero_add, Nat.reduceAdd] at hx
          obtain ⟨e0, e1, e2, e3, e4, e5, e6, e7, e8, e9, _⟩ := hx
          simp only [Rel.fill, Nat.zero_add, Nat.reduceAdd, e0, e1, e2, e3, e4, e5, e6, e7, e8, e9]
          simp only [Act.put, List.setIfInBounds_toArray, List.set_cons_zero, List.set_cons_succ]
          clear e0 e1 e2 e3 e4 e5 e6 e7 e8 e9
          rw [HED.out.2.2.2, HSW.out]
          clear HSW
          obtain ⟨L, hL⟩ : ∃ L, L = D + k := ⟨_, rfl⟩
          have HLL := Lib.hid hL
          have hD8 : D ≤ 8 := by have := HED.out.2.1; omega
          have HCO : Hid (∀ W A c, EC encR W A l → Calls Tryz.prog 8 #[.agg #[.string nm, (.int .i64 rate), .slice A k c]] W fun r w' => (∃ B d, r = .returned (.agg #[.string nm, (.int .i64 rate), .slice B k d]) ∧ EC encR w' B l ∧ ∀ p, B = some p → W.heap.size ≤ p.block) ∧ Below W.heap.size W w') := Lib.hid (fun W A c q => coilRecord_any nm rate l A c k W HLN.out (by omega) q)
          have HDL : Hid (∀ W A c, EC encR W A l → Calls Tryz.prog 7 #[.agg #[.string nm, (.int .i64 rate), .slice A k c], (.int .i64 ((D : Int)))] W fun r w' => (∃ B d, r = .returned (.tuple #[.agg #[.string nm, (.int .i64 rate), .slice B L d], (.int .i64 0)]) ∧ EC encF w' B (List.replicate D 0 ++ l.map vzR) ∧ ∀ p, B = some p → W.heap.size ≤ p.block) ∧ Below W.heap.size W w') := Lib.hid (fun W A c q => by
            rw [hL]
            exact delay_ok nm rate l A c k D W HG.out.ok HR.out HLN.out (by omega) HOK.out q)
          replace HB := Lib.hid (HB.out.trans (hb4.mono HB.out.size))
          replace KR := Lib.hid (KR.out.below hb4)
          replace HCR := Lib.hid (HCR.out.below hb4)
          clear hb4 hL rshl KA a0 a1 al af r0 r1 r2 rl rf
          obtain ⟨r0, r1, r2, rl, rf⟩ := KR.out.o3
          go_wp2_with (go_at_call 8; refine (HCO.out w4 A c HCR.out).mono ?_; rintro r w5 ⟨⟨B5, d5, rfl, c5, _⟩, h5⟩; have C5 := Lib.hid c5; have H5 := Lib.hid h5; clear c5 h5; refine Hid.out ?_)
          unfold Hid
          replace HB := Lib.hid (HB.out.trans (H5.out.mono HB.out.size))
          replace KR := Lib.hid (KR.out.below H5.out)
          replace HCR := Lib.hid (HCR.out.below H5.out)
          clear H5 r0 r1 r2 rl rf
          go_wp2_with (go_at_call 7; refine (HDL.out w5 _ _ C5.out).mono ?_; rintro r w6 ⟨⟨B6, d6, rfl, c6, _⟩, h6⟩; have CL := Lib.hid c6; have H6 := Lib.hid h6; clear c6 h6; refine Hid.out ?_)
          unfold Hid
          replace HB := Lib.hid (HB.out.trans (H6.out.mono HB.out.size))
          replace KR := Lib.hid (KR.out.below H6.out)
          replace HCR := Lib.hid (HCR.out.below H6.out)
          clear H6 C5
          go_wp2
          refine name_world ?_
          intro w7 e7
          have KL := Lib.hid (show Blk w7 w6.heap.size #[.string nm, (.int .i64 rate), .slice B6 L d6] by rw [e7]; (repeat (first | ((with_reducible refine Blk.at_ ?_); focus (first | rfl | (simp; done) | (simp; omega))) | (with_reducible refine Blk.alloc ?_ _) | (with_reducible refine Blk.below ?_ (by with_reducible assumption)) | (with_reducible refine Blk.drew ?_))))
          have h7 : Below w6.heap.size w6 w7 := by rw [e7]; exact bel
          replace HB := Lib.hid (HB.out.trans (h7.mono HB.out.size))
          replace KR := Lib.hid (KR.out.below h7)
          replace HCR := Lib.hid (HCR.out.below h7)
          replace CL := Lib.hid (CL.out.below h7)
          clear e7 h7
          obtain ⟨r0, r1, r2, rl, rf⟩ := KR.out.o3
          have HCO2 : Hid (∀ W A c, EC encR W A l → Calls Tryz.prog 8 #[.agg #[.string nm, (.int .i64 rate), .slice A k c]] W fun r w' => ∃ v, r = .returned v ∧ RecK nm rate k encR l v w' ∧ Below W.heap.size W w') := Lib.hid (fun W A c q => (HCO.out W A c q).mono (by
            rintro r w' ⟨⟨B, d, rfl, h1, _⟩, h2⟩
            exact ⟨_, rfl, ⟨B, d, rfl, h1⟩, h2⟩))
          have HAP : Hid (∀ W A B c cb, EC encR W A l → EC encR W B (List.replicate D 0) → Calls Tryz.prog 9 #[.agg #[.string nm, (.int .i64 rate), .slice A k c], .agg #[.string nm, (.int .i64 rate), .slice B D cb]] W fun r w' => ∃ v, r = .returned v ∧ RecT nm rate L encF (l.map vzR ++ List.replicate D 0) v w' ∧ Below W.heap.size W w') := Lib.hid (fun W A B c cb q1 q2 => by
            have := append_ok nm rate l (List.replicate D 0) A B c cb k D W HG.out.ok HR.out HLN.out (by simp) (by omega) HOK.out (okR.zeros D) q1 q2
            rw [vz_zeros, show k + D = L by rw [HLL.out]; exact Nat.add_comm _ _] at this
            refine this.mono ?_
            rintro r w' ⟨⟨B, d, rfl, h1, _⟩, h2⟩
            exact ⟨_, rfl, ⟨B, d, rfl, h1⟩, h2⟩)
          have HMF : ∀ W : World, Sem.run Tryz.prog (Instr.makeSlice 22 (.int .i64 ((D : Int))) (.int .i64 ((D : Int)))) W = .ok (.slice (some ⟨W.heap.size, 0, none⟩) D D) (W.alloc (.cells (zerosF D).toArray 29)) := mk_floats D (by omega)
          refine RelH.region3 (S := FT 30 (RecK nm rate L encF (l.map vzR ++ List.replicate D 0)) w7.heap.size) (FT.trans (RecK.f fencF)) FT.drawn 15 (by kernel_rfl) (by kernel_rfl) (by kernel_rfl) ?_
          simp only [List.take_succ_cons, List.take_zero, List.drop_succ_cons, List.drop_zero, List.filterMap_cons, List.filterMap_nil]
          (apply RelH.op3 FT.refl; (focus (first | exact RelH.gno rfl | exact RelH.gyes _ true _ rfl rfl rfl | exact RelH.gyes _ false _ rfl rfl rfl)); (focus (intro a W x hS hd hbase; have hb := hS.below (Nat.le_refl _); clear hS; obtain ⟨hc, hf⟩ := bcell hb; clear hb hf; simp [RelH.deps, RelH.dep1, Rel.ons, Region.binds, Act.eval] at hd; simp only [Act.eval, List.mem_cons, List.not_mem_nil, not_or, and_imp, or_false, Array.getD_eq_getD_getElem?] at hbase; go_simp; (try go_bits); (try rfl); done)); (try simp only [List.nil_append, List.cons_append]))
          refine RelH.callR3 (fun _ => RecK nm rate k encR l) (RelH.skF (RecK.f fencR)) RelH.loc_const (fun _ _ _ h => FT.of h) (RelH.gno rfl) ?_ ?_
          · intro a W x hS hd hbase
            have q0 : a.eval (.tmp 85) = _ := RelH.depG hd 0 rfl rfl
            have q1 := HCR.out.below (hS.below (Nat.le_refl _))
            refine ⟨8, #[a.eval (.tmp 85)], ?_, by rw [q0]; exact HCO2.out W A c q1⟩
            clear hd hbase hS q1
            go_simp
            (first | done | rfl | ((refine ⟨?_, ?_⟩) <;> rfl))
          (try simp only [List.nil_append, List.cons_append])
          iterate 5 (apply RelH.op3 FT.refl; (focus (first | exact RelH.gno rfl | exact RelH.gyes _ true _ rfl rfl rfl | exact RelH.gyes _ false _ rfl rfl rfl)); (focus (intro a W x hS hd hbase; have hb := hS.below (Nat.le_refl _); clear hS; obtain ⟨hc, hf⟩ := bcell hb; clear hb hf; simp [RelH.deps, RelH.dep1, Rel.ons, Region.binds, Act.eval] at hd; simp only [Act.eval, List.mem_cons, List.not_mem_nil, not_or, and_imp, or_false, Array.getD_eq_getD_getElem?] at hbase; go_simp; (try go_bits); (try rfl); done)); (try simp only [List.nil_append, List.cons_append]))
          refine RelH.opW3 (fun _ => SlK D encR (List.replicate D 0)) (RelH.skF (SlK.f fencR)) RelH.loc_const (RelH.gno rfl) ?_ ?_
          · intro a W x hS hd hbase
            have q0 : a.eval (.tmp 91) = _ := RelH.depG hd 6 rfl rfl
            refine ⟨.slice (some ⟨W.heap.size, 0, none⟩) D D, W.alloc (.cells (zerosF D).toArray 29), ?_, ⟨_, _, rfl, EC.row (ct := 29) (by rw [heap_alloc_new, zeros_enc])⟩, FT.of ((Below.refl _ _).alloc (Nat.le_refl _) _)⟩
            simp only [Act.eval, Array.getD_eq_getD_getElem?] at q0
            clear hd hbase hS
            go_simp
            (first | done | rfl | ((refine ⟨?_, ?_⟩) <;> rfl))
          (try simp only [List.nil_append, List.cons_append])
          refine RelH.opR3 FT.refl (fun _ => RecK nm rate D encR (List.replicate D 0)) (RelH.skF (RecK.f fencR)) RelH.loc_const (RelH.gno rfl) ?_ ?_
          · intro a W x hS hd hbase
            have q0 : a.eval (.tmp 88) = _ := RelH.depG hd 3 rfl rfl
            have q1 : a.eval (.tmp 90) = _ := RelH.depG hd 5 rfl rfl
            obtain ⟨A1, d1, q2, q3⟩ := RelH.depG hd 7 rfl rfl
            refine ⟨.agg #[.string nm, (.int .i64 rate), .slice A1 D d1], ?_, _, _, rfl, q3⟩
            simp only [Act.eval, Array.getD_eq_getD_getElem?] at q0 q1 q2
            clear hd hbase hS q3
            go_simp
            (first | done | rfl | ((refine ⟨?_, ?_⟩) <;> rfl))
          (try simp only [List.nil_append, List.cons_append])
          refine RelH.callR3 (fun _ => RecT nm rate L encF (l.map vzR ++ List.replicate D 0)) (RelH.skF (RecT.f fencF)) RelH.loc_const (fun _ _ _ h => FT.of h) (RelH.gno rfl) ?_ ?_
          · intro a W x hS hd hbase
            obtain ⟨A1, d1, q0, q1⟩ := RelH.depG hd 1 rfl rfl
            obtain ⟨A2, d2, q2, q3⟩ := RelH.depG hd 8 rfl rfl
            refine ⟨9, #[a.eval (.tmp 86), a.eval (.tmp 93)], ?_, by rw [q0, q2]; exact HAP.out W A1 A2 d1 d2 q1 q3⟩
            clear hd hbase hS q1 q3
            go_simp
            (first | done | rfl | ((refine ⟨?_, ?_⟩) <;> rfl))
          (try simp only [List.nil_append, List.cons_append])
          refine RelH.opR3 FT.refl (fun _ => RecT nm rate L encF (l.map vzR ++ List.replicate D 0)) (RelH.skF (RecT.f fencF)) RelH.loc_const (RelH.gno rfl) (fun a W x hS hd hbase => ⟨a.eval (.tmp 94), by simp [execOp], RelH.depG hd 9 rfl rfl⟩) ?_
          (try simp only [List.nil_append, List.cons_append])
          refine RelH.opR3 FT.refl (fun _ => RecK nm rate L encF (l.map vzR ++ List.replicate D 0)) (RelH.skF (RecK.f fencF)) RelH.loc_const (RelH.gno rfl) ?_ ?_
          · intro a W x hS hd hbase
            obtain ⟨A1, d1, q0, q1⟩ := RelH.depG hd 10 rfl rfl
            exact ⟨.agg #[.string nm, (.int .i64 rate), .slice A1 L d1], by simp [execOp, q0, Instr.extract, Result.andThen], _, _, rfl, q1⟩
          (try simp only [List.nil_append, List.cons_append])
          refine RelH.opR3 FT.refl (fun _ u _ => u = (.int .i64 0)) (fun _ _ _ _ h _ => h) RelH.loc_const (RelH.gno rfl) ?_ ?_
          · intro a W x hS hd hbase
            obtain ⟨A1, d1, q0, q1⟩ := RelH.depG hd 10 rfl rfl
            exact ⟨(.int .i64 0), by simp [execOp, q0, Instr.extract, Result.andThen], rfl⟩
          (try simp only [List.nil_append, List.cons_append])
          refine RelH.allocF RecK.sz #[.string ⟨#[]⟩, (.int .i64 0), .slice none 0 0] ⟨rfl, NoF.rec _ _ _ _ _⟩ (RelH.gno rfl) (by intro a W; go_simp) ?_
          (try simp only [List.nil_append, List.cons_append])
          refine RelH.storeF fencF 11 95 13 11 rfl rfl rfl rfl rfl (RelH.gno rfl) ?_
          (try simp only [List.nil_append, List.cons_append])
          refine RelH.done3 ?_
          intro x w8 hS8 hx
          have h8 := hS8.below (Nat.le_refl _)
          clear hS8
          simp only [RelH.facts, Nat.zero_add, Nat.reduceAdd] at hx
          obtain ⟨e0, e1, e2, e3, e4, e5, e6, e7, e8, e9, e10, e11, e12, e13, ⟨g8, eg8, hg8, cs8, hh8, B8, d8, ec8, c8⟩, _⟩ := hx
          cases ec8
          simp only [RelH.fill, Nat.zero_add, Nat.reduceAdd, e0, e2, e3, e4, e5, e6, e12, eg8]
          simp only [Act.put, List.setIfInBounds_toArray, List.set_cons_zero, List.set_cons_succ]
          have KG := Lib.hid (Calm.Blk.row hh8)
          have CG := Lib.hid c8
          have HG8 := Lib.hid hg8
          generalize x 1 = u1
          generalize x 7 = u2
          generalize x 8 = u3
          generalize x 9 = u4
          generalize x 10 = u5
          generalize x 11 = u6
          replace HB := Lib.hid (HB.out.trans (h8.mono HB.out.size))
          replace KR := Lib.hid (KR.out.below h8)
          replace HCR := Lib.hid (HCR.out.below h8)
          replace KL := Lib.hid (KL.out.below h8)
          replace CL := Lib.hid (CL.out.below h8)
          clear e0 e1 e2 e3 e4 e5 e6 e7 e8 e9 e10 e11 e12 e13 eg8 hh8 c8 hg8 h8 r0 r1 r2 rl rf HMF
          obtain ⟨own, hown⟩ : ∃ own, own = l.map vzR := ⟨_, rfl⟩
          obtain ⟨Es, hes⟩ : ∃ Es, Es = List.zipWith (· + ·) (own ++ List.replicate D 0) (List.replicate D 0 ++ own) := ⟨_, rfl⟩
          have HP : Hid (EchoP l own Es k D) := Lib.hid (by rw [hes, hown]; exact echo_p l k D HLN.out hN16 ⟨by have := HED.out.2.1; omega, hD8⟩ HQU.out)
          rw [← hown] at CL CG
          have HNK := Lib.hid HG.out.ok
          have HMX : Hid (∀ W A B ca cb, EC encF W A (own ++ List.replicate D 0) → EC encF W B (List.replicate D 0 ++ own) → Calls Tryz.prog 10 #[.agg #[.string nm, (.int .i64 rate), .slice A L ca], .agg #[.string nm, (.int .i64 rate), .slice B L cb]] W fun r w' => (∃ B d, r = .returned (.tuple #[.agg #[.string nm, (.int .i64 rate), .slice B L d], (.int .i64 0)]) ∧ EC encF w' B Es ∧ ∀ p, B = some p → W.heap.size ≤ p.block) ∧ Below W.heap.size W w') := Lib.hid (fun W A B ca cb q1 q2 => by
            have := mix_ok nm rate _ _ A B ca cb L W HNK.out HR.out (by rw [HLL.out, HP.out.ol, List.length_append, List.length_replicate]; omega) (by rw [HLL.out, HP.out.ol, List.length_append, List.length_replicate]) (by have := HLL.out; omega) HP.out.qx HP.out.qy q1 q2
            rw [HP.out.es] at this
            exact this)
          have HEL : Hid (L = Es.length) := Lib.hid (by rw [HLL.out, HP.out.el])
          have hL24 : L ≤ 24 := by have := HLL.out; omega
          have HEN : Hid (∀ W A c, EC encF W A Es → Calls Tryz.prog 11 #[.agg #[.string nm, (.int .i64 rate), .slice A L c]] W fun r w' => (∃ B d S, r = .returned (.tuple #[.slice B S d, (.int .i64 0)]) ∧ S = (strm nm rate Es).length ∧ S ≤ d ∧ EC encB w' B (strm nm rate Es) ∧ ∀ p, B = some p → W.heap.size ≤ p.block) ∧ Below W.heap.size W w') := Lib.hid (fun W A c q => encode_ok nm rate _ A c L W HNK.out HR.out HEL.out (by omega) HP.out.fl q)
          have HDE : Hid (∀ W A c S, S = (strm nm rate Es).length → S ≤ c → EC encB W A (strm nm rate Es) → Calls Tryz.prog 12 #[.slice A S c] W fun r w' => (∃ B d, r = .returned (.tuple #[.agg #[.string nm, (.int .i64 rate), .slice B L d], (.int .i64 0)]) ∧ EC encF w' B Es ∧ ∀ p, B = some p → W.heap.size ≤ p.block) ∧ Below W.heap.size W w') := Lib.hid (fun W A c S q1 q2 q3 => decode_ok nm rate _ A c L S W HNK.out HG.out.pos HR.out HEL.out (by omega) HP.out.fl q1 q2 q3)
          have HPR : Hid (∀ W A c, Below w.heap.size w W → EC encF W A Es → Calls Tryz.prog 13 #[.agg #[.string nm, (.int .i64 rate), .slice A L c]] W fun r w' => r = .returned (.tuple #[sv (recT nm rate Es), (.int .i64 0)]) ∧ Below W.heap.size W w') := Lib.hid (fun W A c hb q => print_ok nm rate Es A c L W (HTB.out W hb) HNK.out HR.out HEL.out (by omega) HP.out.fl HP.out.nr q)
          obtain ⟨TX, hTX⟩ : ∃ TX, TX = sv (recT nm rate Es) := ⟨_, rfl⟩
          rw [← hTX] at HPR
          have HPA : Hid (∀ W, Below w.heap.size w W → Calls Tryz.prog 14 #[TX] W fun r w' => (∃ B d, r = .returned (.tuple #[.agg #[.string nm, (.int .i64 rate), .slice B L d], (.int .i64 0), (.int .i64 0)]) ∧ EC encF w' B Es ∧ ∀ p, B = some p → W.heap.size ≤ p.block) ∧ Below W.heap.size W w') := Lib.hid (fun W hb => by rw [hTX]; exact parse_ok nm rate Es L W (HTB.out W hb) HG.out HR.out HEL.out (by omega) HP.out.fl HP.out.rng)
          have HSQ : Hid (∀ W A c, EC encF W A Es → Calls Tryz.prog 15 #[.agg #[.string nm, (.int .i64 rate), .slice A L c]] W fun r w' => (∃ B d, r = .returned (.tuple #[.slice B L d, (.int .i64 0)]) ∧ Cells w' B Es ∧ ∀ p, B = some p → W.heap.size ≤ p.block) ∧ Below W.heap.size W w') := Lib.hid (fun W A c q => sequence_ok nm rate Es A c L W HNK.out HR.out HEL.out (by omega) HP.out.fl q)
          have HSO : Hid (∀ W A c, EC encR W A l → Calls Tryz.prog 15 #[.agg #[.string nm, (.int .i64 rate), .slice A k c]] W fun r w' => (∃ B d, r = .returned (.tuple #[.slice B k d, (.int .i64 0)]) ∧ Cells w' B own ∧ ∀ p, B = some p → W.heap.size ≤ p.block) ∧ Below W.heap.size W w') := Lib.hid (fun W A c q => by rw [hown]; exact sequence_raw xbR vzR nm rate l A c k W HNK.out HR.out HLN.out (by omega) HOK.out.raw q)
          clear hown hes hTX
          obtain ⟨x0, x1, x2, xl, xf⟩ := KL.out.o3
          obtain ⟨y0, y1, y2, yl, yf⟩ := KG.out.o3
          go_wp2_with (go_at_call 10; refine name_calls ?_; intro w9 e9; refine Hid.out ?_)
          unfold Hid
          clear x0 x1 x2 xl xf
          clear y0 y1 y2 yl yf
          have h9 : Below w8.heap.size w8 w9 := by rw [e9]; exact bel
          replace KR := Lib.hid (KR.out.below h9)
          replace HCR := Lib.hid (HCR.out.below h9)
          replace KL := Lib.hid (KL.out.below h9)
          replace CL := Lib.hid (CL.out.below h9)
          replace KG := Lib.hid (KG.out.below h9)
          replace CG := Lib.hid (CG.out.below h9)
          replace HB := Lib.hid (HB.out.trans (h9.mono HB.out.size))
          clear e9 h9
          refine (HMX.out w9 _ _ _ _ CG.out CL.out).mono ?_
          rintro r w10 ⟨⟨B10, d10, rfl, c10, _⟩, h10⟩
          replace KR := Lib.hid (KR.out.below h10)
          replace HCR := Lib.hid (HCR.out.below h10)
          replace KL := Lib.hid (KL.out.below h10)
          replace CL := Lib.hid (CL.out.below h10)
          replace KG := Lib.hid (KG.out.below h10)
          replace CG := Lib.hid (CG.out.below h10)
          replace HB := Lib.hid (HB.out.trans (h10.mono HB.out.size))
          have CM := Lib.hid c10
          clear h10 c10
          clear KL CL KG CG
          clear HMX
          go_wp2_with (go_at_call 11; refine name_calls ?_; intro w11 e11; refine Hid.out ?_)
          unfold Hid
          have KM := Lib.hid (show Blk w11 w10.heap.size #[.string nm, (.int .i64 rate), .slice B10 L d10] by rw [e11]; (repeat (first | ((with_reducible refine Blk.at_ ?_); focus (first | rfl | (simp; done) | (simp; omega))) | (with_reducible refine Blk.alloc ?_ _) | (with_reducible refine Blk.below ?_ (by with_reducible assumption)) | (with_reducible refine Blk.drew ?_))))
          have h11 : Below w10.heap.size w10 w11 := by rw [e11]; exact bel
          replace KR := Lib.hid (KR.out.below h11)
          replace HCR := Lib.hid (HCR.out.below h11)
          replace CM := Lib.hid (CM.out.below h11)
          replace HB := Lib.hid (HB.out.trans (h11.mono HB.out.size))
          clear e11 h11
          refine (HEN.out w11 _ _ CM.out).mono ?_
          rintro r w12 ⟨⟨B12, d12, S12, rfl, s1, s2, c12, _⟩, h12⟩
          replace KR := Lib.hid (KR.out.below h12)
          replace HCR := Lib.hid (HCR.out.below h12)
          replace CM := Lib.hid (CM.out.below h12)
          replace KM := Lib.hid (KM.out.below h12)
          replace HB := Lib.hid (HB.out.trans (h12.mono HB.out.size))
          have CE := Lib.hid c12
          clear h12 c12
          have SS := Lib.hid (And.intro s1 s2)
          clear s1 s2
          clear KM CM
          clear HEN
          go_wp2_with (go_at_call 12; refine name_calls ?_; intro w13 e13; refine Hid.out ?_)
          unfold Hid
          have h13 : Below w12.heap.size w12 w13 := by rw [e13]; exact bel
          replace KR := Lib.hid (KR.out.below h13)
          replace HCR := Lib.hid (HCR.out.below h13)
          replace CE := Lib.hid (CE.out.below h13)
          replace HB := Lib.hid (HB.out.trans (h13.mono HB.out.size))
          clear e13 h13
          refine (HDE.out w13 _ _ _ SS.out.1 SS.out.2 CE.out).mono ?_
          rintro r w14 ⟨⟨B14, d14, rfl, c14, _⟩, h14⟩
          replace KR := Lib.hid (KR.out.below h14)
          replace HCR := Lib.hid (HCR.out.below h14)
          replace CE := Lib.hid (CE.out.below h14)
          replace HB := Lib.hid (HB.out.trans (h14.mono HB.out.size))
          have CD := Lib.hid c14
          clear h14 c14
          clear CE
          clear HDE SS
          go_wp2_with (go_at_call 13; refine name_calls ?_; intro w15 e15; refine Hid.out ?_)
          unfold Hid
          have KT := Lib.hid (show Blk w15 w14.heap.size #[.string nm, (.int .i64 rate), .slice B14 L d14] by rw [e15]; (repeat (first | ((with_reducible refine Blk.at_ ?_); focus (first | rfl | (simp; done) | (simp; omega))) | (with_reducible refine Blk.alloc ?_ _) | (with_reducible refine Blk.below ?_ (by with_reducible assumption)) | (with_reducible refine Blk.drew ?_))))
          have h15 : Below w14.heap.size w14 w15 := by rw [e15]; exact bel
          replace KR := Lib.hid (KR.out.below h15)
          replace HCR := Lib.hid (HCR.out.below h15)
          replace CD := Lib.hid (CD.out.below h15)
          replace HB := Lib.hid (HB.out.trans (h15.mono HB.out.size))
          clear e15 h15
          refine (HPR.out w15 _ _ HB.out CD.out).mono ?_
          rintro r w16 ⟨rfl, h16⟩
          replace KR := Lib.hid (KR.out.below h16)
          replace HCR := Lib.hid (HCR.out.below h16)
          replace CD := Lib.hid (CD.out.below h16)
          replace KT := Lib.hid (KT.out.below h16)
          replace HB := Lib.hid (HB.out.trans (h16.mono HB.out.size))
          clear h16 
          clear KT CD
          clear HPR
          go_wp2_with (go_at_call 14; refine name_calls ?_; intro w17 e17; refine Hid.out ?_)
          unfold Hid
          have h17 : Below w16.heap.size w16 w17 := by rw [e17]; exact bel
          replace KR := Lib.hid (KR.out.below h17)
          replace HCR := Lib.hid (HCR.out.below h17)
          replace HB := Lib.hid (HB.out.trans (h17.mono HB.out.size))
          clear e17 h17
          refine (HPA.out w17 HB.out).mono ?_
          rintro r w18 ⟨⟨B18, d18, rfl, c18, _⟩, h18⟩
          replace KR := Lib.hid (KR.out.below h18)
          replace HCR := Lib.hid (HCR.out.below h18)
          replace HB := Lib.hid (HB.out.trans (h18.mono HB.out.size))
          have CP := Lib.hid c18
          clear h18 c18
          clear HPA
          go_wp2_with (go_at_call 15; refine name_calls ?_; intro w19 e19; refine Hid.out ?_)
          unfold Hid
          have KU := Lib.hid (show Blk w19 w18.heap.size #[.string nm, (.int .i64 rate), .slice B18 L d18] by rw [e19]; (repeat (first | ((with_reducible refine Blk.at_ ?_); focus (first | rfl | (simp; done) | (simp; omega))) | (with_reducible refine Blk.alloc ?_ _) | (with_reducible refine Blk.below ?_ (by with_reducible assumption)) | (with_reducible refine Blk.drew ?_))))
          have h19 : Below w18.heap.size w18 w19 := by rw [e19]; exact bel
          replace KR := Lib.hid (KR.out.below h19)
          replace HCR := Lib.hid (HCR.out.below h19)
          replace CP := Lib.hid (CP.out.below h19)
          replace HB := Lib.hid (HB.out.trans (h19.mono HB.out.size))
          clear e19 h19
          refine (HSQ.out w19 _ _ CP.out).mono ?_
          rintro r w20 ⟨⟨B20, d20, rfl, c20, _⟩, h20⟩
          replace KR := Lib.hid (KR.out.below h20)
          replace HCR := Lib.hid (HCR.out.below h20)
          replace CP := Lib.hid (CP.out.below h20)
          replace KU := Lib.hid (KU.out.below h20)
          replace HB := Lib.hid (HB.out.trans (h20.mono HB.out.size))
          have CS := Lib.hid c20
          clear h20 c20
          clear KU CP
          clear HSQ
          obtain ⟨r0, r1, r2, rl, rf⟩ := KR.out.o3
          go_wp2_with (go_at_call 8; refine name_calls ?_; intro w21 e21; refine Hid.out ?_)
          unfold Hid
          clear r0 r1 r2 rl rf
          have h21 : Below w20.heap.size w20 w21 := by rw [e21]; exact bel
          replace KR := Lib.hid (KR.out.below h21)
          replace HCR := Lib.hid (HCR.out.below h21)
          replace CS := Lib.hid (CS.out.below h21)
          replace HB := Lib.hid (HB.out.trans (h21.mono HB.out.size))
          clear e21 h21
          refine (HCO.out w21 A c HCR.out).mono ?_
          rintro r w22 ⟨⟨B22, d22, rfl, c22, _⟩, h22⟩
          replace KR := Lib.hid (KR.out.below h22)
          replace HCR := Lib.hid (HCR.out.below h22)
          replace CS := Lib.hid (CS.out.below h22)
          replace HB := Lib.hid (HB.out.trans (h22.mono HB.out.size))
          have CQ := Lib.hid c22
          clear h22 c22
          go_wp2_with (go_at_call 15; refine name_calls ?_; intro w23 e23; refine Hid.out ?_)
          unfold Hid
          have h23 : Below w22.heap.size w22 w23 := by rw [e23]; exact bel
          replace KR := Lib.hid (KR.out.below h23)
          replace HCR := Lib.hid (HCR.out.below h23)
          replace CS := Lib.hid (CS.out.below h23)
          replace CQ := Lib.hid (CQ.out.below h23)
          replace HB := Lib.hid (HB.out.trans (h23.mono HB.out.size))
          clear e23 h23
          refine (HSO.out w23 _ _ CQ.out).mono ?_
          rintro r w24 ⟨⟨B24, d24, rfl, c24, _⟩, h24⟩
          replace KR := Lib.hid (KR.out.below h24)
          replace HCR := Lib.hid (HCR.out.below h24)
          replace CS := Lib.hid (CS.out.below h24)
          replace CQ := Lib.hid (CQ.out.below h24)
          replace HB := Lib.hid (HB.out.trans (h24.mono HB.out.size))
          have CO := Lib.hid c24
          clear h24 c24
          clear CQ HCR
          clear HSO HCO HCO2 HDL HAP HQU HOK
          go_wp2_with (at_make; refine name_list ?_; intro w25 e25; refine Hid.out ?_)
          unfold Hid
          have h25 : Below w24.heap.size w24 w25 := by rw [e25]; exact bel
          replace KR := Lib.hid (KR.out.below h25)
          replace CS := Lib.hid (CS.out.below h25)
          replace CO := Lib.hid (CO.out.below h25)
          replace HB := Lib.hid (HB.out.trans (h25.mono HB.out.size))
          clear e25 h25
          refine wpList_mkI rfl _ _ rfl (D + 1) (by omega) rfl rfl ?_
          intro w26 e26
          have KZ : Blk w26 w25.heap.size (zerosA (D + 1)).toArray := by rw [e26]; (repeat (first | ((with_reducible refine Blk.at_ ?_); focus (first | rfl | (simp; done) | (simp; omega))) | (with_reducible refine Blk.alloc ?_ _) | (with_reducible refine Blk.below ?_ (by with_reducible assumption)) | (with_reducible refine Blk.drew ?_)))
          have z0 : w26.cell? ⟨w25.heap.size, 0, none⟩ = some (.int .i64 0) := by rw [KZ.c]; simp [zerosA]
          have z1 : w26.cell? ⟨w25.heap.size, D, none⟩ = some (.int .i64 0) := by rw [KZ.c]; simp [zerosA]
          have zl := KZ.lt
          have zf := KZ.f
          have hD1 : D ≠ 0 := by have := HED.out.2.1; omega
          have HKZ := Lib.hid KZ
          have HE26 := Lib.hid e26
          clear KZ e26
          go_wp2_with (at_builtin; refine name_list ?_; intro w27 e27; refine Hid.out ?_)
          unfold Hid
          have CT := Lib.hid (show Cells w27 (some ⟨w25.heap.size, 0, none⟩) (unitD D) by rw [e27]; exact (Cells.two HKZ.out).below bel)
          have h27 : Below w25.heap.size w25 w27 := by rw [e27, HE26.out]; exact bel
          replace KR := Lib.hid (KR.out.below h27)
          replace CS := Lib.hid (CS.out.below h27)
          replace CO := Lib.hid (CO.out.below h27)
          replace HB := Lib.hid (HB.out.trans (h27.mono HB.out.size))
          have hg27 : w26.heap.size < w27.heap.size := by rw [e27]; simp
          clear e27 h27 z0 z1 zl zf HKZ HE26
          refine wpList_appJ rfl _ _ rfl _ k d24 B24 own HP.out.ol rfl rfl hg27 (by omega) CO.out ?_
          intro B28 d28 w28 h28 c28
          replace KR := Lib.hid (KR.out.below h28)
          replace CS := Lib.hid (CS.out.below h28)
          replace CO := Lib.hid (CO.out.below h28)
          replace CT := Lib.hid (CT.out.below h28)
          replace HB := Lib.hid (HB.out.trans (h28.mono HB.out.size))
          have CA := Lib.hid c28
          clear h28 c28 hg27
          obtain ⟨ML, hML⟩ : ∃ ML, ML = (conv own (unitD D)).length := ⟨_, rfl⟩
          have HML := Lib.hid hML
          have HCV : Hid (∀ W A B ca cb, Cells W A own → Cells W B (unitD D) → Calls Tryz.prog 16 #[.slice A k ca, .slice B (D + 1) cb] W fun r w' => (∃ B d, r = .returned (.tuple #[.slice B ML d, (.int .i64 0)]) ∧ Cells w' B (conv own (unitD D))) ∧ Below W.heap.size W w') := Lib.hid (fun W A B ca cb q1 q2 => by
            refine (gConvolve_ok own (unitD D) A B k (D + 1) ca cb W HP.out.ol (unitD_len D).symm (by omega) (by omega) HP.out.lo HP.out.lu HP.out.lc q1 q2).mono ?_
            rintro r w' ⟨v, rfl, ⟨B1, d1, rfl, h1, _⟩, h2⟩
            rw [hML]
            exact ⟨⟨B1, d1, rfl, h1⟩, h2⟩)
          clear hML
          go_wp2_with (go_at_call 16; refine name_calls ?_; intro w29 e29; refine Hid.out ?_)
          unfold Hid
          have h29 : Below w28.heap.size w28 w29 := by rw [e29]; exact bel
          replace KR := Lib.hid (KR.out.below h29)
          replace CS := Lib.hid (CS.out.below h29)
          replace CO := Lib.hid (CO.out.below h29)
          replace CT := Lib.hid (CT.out.below h29)
          replace CA := Lib.hid (CA.out.below h29)
          replace HB := Lib.hid (HB.out.trans (h29.mono HB.out.size))
          clear e29 h29
          refine (HCV.out w29 _ _ _ _ CA.out CT.out).mono ?_
          rintro r w30 ⟨⟨B30, d30, rfl, c30⟩, h30⟩
          replace KR := Lib.hid (KR.out.below h30)
          replace CS := Lib.hid (CS.out.below h30)
          replace CO := Lib.hid (CO.out.below h30)
          replace CT := Lib.hid (CT.out.below h30)
          replace CA := Lib.hid (CA.out.below h30)
          replace HB := Lib.hid (HB.out.trans (h30.mono HB.out.size))
          have CV := Lib.hid c30
          clear h30 c30
          clear CA CT
          clear HCV
          obtain ⟨r0, r1, r2, rl, rf⟩ := KR.out.o3
          have hLk : ((L : Int) != (k : Int) + (D : Int)) = false := by have := HLL.out; simp; omega
          have HZ0 : Hid (k = 0 → ML = 0 ∧ Es = List.replicate D 0 ∧ L = D) := Lib.hid (fun h => ⟨by rw [HML.out, (HP.out.e0 h).2]; rfl, (HP.out.e0 h).1, by have := HLL.out; omega⟩)
          by_cases hk0 : k = 0
          · obtain ⟨hm0, hz1, hz2⟩ := HZ0.out hk0
            have hk1 : ((k : Int) == 0) = true := by rw [hk0]; rfl
            have HSI : Hid (∀ W A B ca cb, Cells W A Es → Cells W B (List.replicate D 0) → Calls Tryz.prog 17 #[.slice A L ca, .slice B D cb] W fun r w' => r = .returned (.bool true) ∧ Below W.heap.size W w') := Lib.hid (fun W A B ca cb q1 q2 => by
              have := sameInts_any A B Es (List.replicate D 0) ca cb W q1 q2 (by have := HEL.out; omega) (by simp; omega)
              rw [decide_eq_true hz1, ← HEL.out, List.length_replicate] at this
              exact this)
            have HM0 := Lib.hid hm0
            have HK0 := Lib.hid hk0
            have hm1 : ((ML : Int) == 0) = true := by rw [hm0]; rfl
            have HMD : ∀ W : World, Sem.run Tryz.prog (Instr.makeSlice 44 (.int .i64 ((D : Int))) (.int .i64 ((D : Int)))) W = .ok (.slice (some ⟨W.heap.size, 0, none⟩) D D) (W.alloc (.cells (zerosA D).toArray 3)) := fun W => mk_ints D (by omega) W
            clear hm0 hz1 hz2 hk0
            go_wp2_with (go_at_call 17; refine name_calls ?_; intro w31 e31; refine Hid.out ?_)
            unfold Hid
            clear r0 r1 r2 rl rf
            have KY := Lib.hid (show Blk w31 w30.heap.size (zerosA D).toArray by rw [e31]; (repeat (first | ((with_reducible refine Blk.at_ ?_); focus (first | rfl | (simp; done) | (simp; omega))) | (with_reducible refine Blk.alloc ?_ _) | (with_reducible refine Blk.below ?_ (by with_reducible assumption)) | (with_reducible refine Blk.drew ?_))))
            have h31 : Below w30.heap.size w30 w31 := by rw [e31]; exact bel
            replace KR := Lib.hid (KR.out.below h31)
            replace CS := Lib.hid (CS.out.below h31)
            replace CO := Lib.hid (CO.out.below h31)
            replace CV := Lib.hid (CV.out.below h31)
            replace HB := Lib.hid (HB.out.trans (h31.mono HB.out.size))
            clear e31 h31
            refine (HSI.out w31 _ _ _ _ CS.out (Cells.zeros KY.out)).mono ?_
            rintro r w32 ⟨rfl, h32⟩
            replace KR := Lib.hid (KR.out.below h32)
            replace CS := Lib.hid (CS.out.below h32)
            replace CO := Lib.hid (CO.out.below h32)
            replace CV := Lib.hid (CV.out.below h32)
            replace KY := Lib.hid (KY.out.below h32)
            replace HB := Lib.hid (HB.out.trans (h32.mono HB.out.size))
            clear h32 
            go_wp2_with (go_at_call 6; refine name_calls ?_; intro w33 e33; refine Hid.out ?_)
            unfold Hid
            have h33 : Below w32.heap.size w32 w33 := by rw [e33]; exact bel
            replace KR := Lib.hid (KR.out.below h33)
            replace CS := Lib.hid (CS.out.below h33)
            replace CO := Lib.hid (CO.out.below h33)
            replace CV := Lib.hid (CV.out.below h33)
            replace KY := Lib.hid (KY.out.below h33)
            replace HB := Lib.hid (HB.out.trans (h33.mono HB.out.size))
            clear e33 h33
            refine (HCE.out w33 HB.out).mono ?_
            rintro r w34 ⟨rfl, h34⟩
            replace HB := Lib.hid (HB.out.trans (h34.mono HB.out.size))
            clear h34
            go_wp2
            go_ret
            exact ⟨rfl, HB.out⟩
          · have hk1 : ((k : Int) == 0) = false := beq_eq_false_iff_ne.2 (by omega)
            have hkp : 0 < k := by omega
            have HSJ : Hid (∀ W A B ca cb, Cells W A Es → Cells W B (conv own (unitD D)) → Calls Tryz.prog 17 #[.slice A L ca, .slice B ML cb] W fun r w' => r = .returned (.bool true) ∧ Below W.heap.size W w') := Lib.hid (fun W A B ca cb q1 q2 => by
              have h1 := HP.out.e1 hkp
              have := sameInts_any A B Es (conv own (unitD D)) ca cb W q1 q2 (by have := HEL.out; omega) (by rw [h1]; have := HEL.out; omega)
              rw [decide_eq_true h1.symm, ← HEL.out, ← HML.out] at this
              exact this)
            obtain ⟨ga, gb, gx, gy, gu, gv, hPP⟩ : ∃ ga gb gx gy gu gv, PairP own k E SZ ga gb gx gy gu gv := ⟨_, _, _, _, _, _, pair_p own k E SZ HP.out.ol hkp hN16 HED.out.1 HED.out.2.2.1 HP.out.b⟩
            have HPP := Lib.hid hPP
            have hS16 : 1 ≤ SZ ∧ SZ ≤ 16 := by
              have h1 := HED.out.2.2.1
              have h2 := HED.out.1
              have h3 : 1 ≤ 2 ^ E ∧ 2 ^ E ≤ 16 := ⟨Nat.one_le_two_pow, Nat.le_trans (Nat.pow_le_pow_right (by decide) (show E ≤ 4 by omega)) (by decide)⟩
              omega
            obtain ⟨hS1, hS2⟩ := hS16
            clear hPP hk0 HZ0
            have HPC : Hid (∀ W, Calls Tryz.prog 18 #[(.int .i64 ((SZ : Int)))] W fun r w' => (∃ A1 c1 A2 c2, r = .returned (.tuple #[.slice A1 SZ c1, .slice A2 SZ c2, (.int .i64 0)]) ∧ Cells w' A1 ga ∧ Cells w' A2 gb) ∧ Below W.heap.size W w') := Lib.hid (fun W => by
              have := pair_any E (by have := HED.out.1; omega) W
              rw [← HED.out.2.2.1] at this
              refine this.mono ?_
              rintro r w' ⟨u, v, rfl, ⟨A1, c1, rfl, q1, _⟩, ⟨A2, c2, rfl, q2, _⟩, h⟩
              rw [HPP.out.ea] at q1
              rw [HPP.out.eb] at q2
              exact ⟨⟨A1, c1, A2, c2, by rw [HPP.out.ea, HPP.out.eb, ← HPP.out.al, ← HPP.out.bl], q1, q2⟩, h⟩)
            obtain ⟨XL, hXL⟩ : ∃ XL, XL = SZ + k - 1 := ⟨_, rfl⟩
            obtain ⟨UL, hUL⟩ : ∃ UL, UL = 2 * SZ + k - 2 := ⟨_, rfl⟩
            have HXU := Lib.hid (And.intro hXL hUL)
            have hUL2 : ((UL : Int) != 2 * (SZ : Int) + (k : Int) - 2) = false := by simp; omega
            have hUL3 : UL ≤ 46 := by omega
            have hXL3 : XL ≤ 31 := by omega
            clear hXL hUL
            have HC1 : Hid (∀ W A B ca cb, Cells W A ga → Cells W B own → Calls Tryz.prog 16 #[.slice A SZ ca, .slice B k cb] W fun r w' => (∃ B d, r = .returned (.tuple #[.slice B XL d, (.int .i64 0)]) ∧ Cells w' B gx) ∧ Below W.heap.size W w') := Lib.hid (fun W A B ca cb q1 q2 => by
              refine (gConvolve_ok ga own A B SZ k ca cb W HPP.out.al HP.out.ol (by omega) (by omega) HPP.out.la HP.out.lo (by rw [HPP.out.ex]; exact HPP.out.lx) q1 q2).mono ?_
              rintro r w' ⟨v, rfl, ⟨B1, d1, rfl, h1, _⟩, h2⟩
              rw [HPP.out.ex] at h1
              exact ⟨⟨B1, d1, by rw [HPP.out.ex, HPP.out.xl, HXU.out.1], h1⟩, h2⟩)
            have HC2 : Hid (∀ W A B ca cb, Cells W A gb → Cells W B own → Calls Tryz.prog 16 #[.slice A SZ ca, .slice B k cb] W fun r w' => (∃ B d, r = .returned (.tuple #[.slice B XL d, (.int .i64 0)]) ∧ Cells w' B gy) ∧ Below W.heap.size W w') := Lib.hid (fun W A B ca cb q1 q2 => by
              refine (gConvolve_ok gb own A B SZ k ca cb W HPP.out.bl HP.out.ol (by omega) (by omega) HPP.out.lb HP.out.lo (by rw [HPP.out.ey]; exact HPP.out.ly) q1 q2).mono ?_
              rintro r w' ⟨v, rfl, ⟨B1, d1, rfl, h1, _⟩, h2⟩
              rw [HPP.out.ey] at h1
              exact ⟨⟨B1, d1, by rw [HPP.out.ey, HPP.out.yl, HXU.out.1], h1⟩, h2⟩)
            have HK1 : Hid (∀ W A B ca cb, Cells W A ga → Cells W B gx → Calls Tryz.prog 19 #[.slice A SZ ca, .slice B XL cb] W fun r w' => (∃ B d, r = .returned (.tuple #[.slice B UL d, (.int .i64 0)]) ∧ Cells w' B gu) ∧ Below W.heap.size W w') := Lib.hid (fun W A B ca cb q1 q2 => by
              refine (gCorrelate_ok ga gx A B SZ XL ca cb W HPP.out.al (by rw [HPP.out.xl]; exact HXU.out.1) (by omega) (by omega) HPP.out.la HPP.out.lx (by rw [HPP.out.eu]; exact HPP.out.lu) q1 q2).mono ?_
              rintro r w' ⟨v, rfl, ⟨B1, d1, rfl, h1, _⟩, h2⟩
              rw [HPP.out.eu] at h1
              exact ⟨⟨B1, d1, by rw [HPP.out.eu, HPP.out.ul, HXU.out.2], h1⟩, h2⟩)
            have HK2 : Hid (∀ W A B ca cb, Cells W A gb → Cells W B gy → Calls Tryz.prog 19 #[.slice A SZ ca, .slice B XL cb] W fun r w' => (∃ B d, r = .returned (.tuple #[.slice B UL d, (.int .i64 0)]) ∧ Cells w' B gv) ∧ Below W.heap.size W w') := Lib.hid (fun W A B ca cb q1 q2 => by
              refine (gCorrelate_ok gb gy A B SZ XL ca cb W HPP.out.bl (by rw [HPP.out.yl]; exact HXU.out.1) (by omega) (by omega) HPP.out.lb HPP.out.ly (by rw [HPP.out.ev]; exact HPP.out.lv) q1 q2).mono ?_
              rintro r w' ⟨v, rfl, ⟨B1, d1, rfl, h1, _⟩, h2⟩
              rw [HPP.out.ev] at h1
              exact ⟨⟨B1, d1, by rw [HPP.out.ev, HPP.out.vl, HXU.out.2], h1⟩, h2⟩)
            go_wp2_with (go_at_call 17; refine name_calls ?_; intro w31 e31; refine Hid.out ?_)
            unfold Hid
            clear r0 r1 r2 rl rf
            have h31 : Below w30.heap.size w30 w31 := by rw [e31]; exact bel
            replace KR := Lib.hid (KR.out.below h31)
            replace CS := Lib.hid (CS.out.below h31)
            replace CO := Lib.hid (CO.out.below h31)
            replace CV := Lib.hid (CV.out.below h31)
            replace HB := Lib.hid (HB.out.trans (h31.mono HB.out.size))
            clear e31 h31
            refine (HSJ.out w31 _ _ _ _ CS.out CV.out).mono ?_
            rintro r w32 ⟨rfl, h32⟩
            replace KR := Lib.hid (KR.out.below h32)
            replace CS := Lib.hid (CS.out.below h32)
            replace CO := Lib.hid (CO.out.below h32)
            replace CV := Lib.hid (CV.out.below h32)
            replace HB := Lib.hid (HB.out.trans (h32.mono HB.out.size))
            clear h32 
            clear CS CV KR
            clear HSJ
            go_wp2_with (go_at_call 18; refine name_calls ?_; intro w33 e33; refine Hid.out ?_)
            unfold Hid
            have h33 : Below w32.heap.size w32 w33 := by rw [e33]; exact bel
            replace CO := Lib.hid (CO.out.below h33)
            replace HB := Lib.hid (HB.out.trans (h33.mono HB.out.size))
            clear e33 h33
            refine (HPC.out w33).mono ?_
            rintro r w34 ⟨⟨P1, p1, P2, p2, rfl, ca, cb⟩, h34⟩
            replace CO := Lib.hid (CO.out.below h34)
            replace HB := Lib.hid (HB.out.trans (h34.mono HB.out.size))
            have CGA := Lib.hid ca
            have CGB := Lib.hid cb
            clear h34 ca cb
            clear HPC
            go_wp2_with (at_builtin; refine name_list ?_; intro w35 e35; refine Hid.out ?_)
            unfold Hid
            have hg35 : w34.heap.size < w35.heap.size := by rw [e35]; simp
            have h35 : Below w34.heap.size w34 w35 := by rw [e35]; exact bel
            replace CO := Lib.hid (CO.out.below h35)
            replace CGA := Lib.hid (CGA.out.below h35)
            replace CGB := Lib.hid (CGB.out.below h35)
            replace HB := Lib.hid (HB.out.trans (h35.mono HB.out.size))
            clear e35 h35
            refine wpList_appJ rfl _ _ rfl _ SZ p1 P1 ga HPP.out.al rfl rfl hg35 (by omega) CGA.out ?_
            intro B36 d36 w36 h36 c36
            replace CO := Lib.hid (CO.out.below h36)
            replace CGA := Lib.hid (CGA.out.below h36)
            replace CGB := Lib.hid (CGB.out.below h36)
            replace HB := Lib.hid (HB.out.trans (h36.mono HB.out.size))
            have CX1 := Lib.hid c36
            clear h36 c36 hg35
            go_wp2_with (at_builtin; refine name_list ?_; intro w37 e37; refine Hid.out ?_)
            unfold Hid
            have hg37 : w36.heap.size < w37.heap.size := by rw [e37]; simp
            have h37 : Below w36.heap.size w36 w37 := by rw [e37]; exact bel
            replace CO := Lib.hid (CO.out.below h37)
            replace CGA := Lib.hid (CGA.out.below h37)
            replace CGB := Lib.hid (CGB.out.below h37)
            replace CX1 := Lib.hid (CX1.out.below h37)
            replace HB := Lib.hid (HB.out.trans (h37.mono HB.out.size))
            clear e37 h37
            refine wpList_appJ rfl _ _ rfl _ k d24 B24 own HP.out.ol rfl rfl hg37 (by omega) CO.out ?_
            intro B38 d38 w38 h38 c38
            replace CO := Lib.hid (CO.out.below h38)
            replace CGA := Lib.hid (CGA.out.below h38)
            replace CGB := Lib.hid (CGB.out.below h38)
            replace CX1 := Lib.hid (CX1.out.below h38)
            replace HB := Lib.hid (HB.out.trans (h38.mono HB.out.size))
            have CX2 := Lib.hid c38
            clear h38 c38 hg37
            go_wp2_with (go_at_call 16; refine name_calls ?_; intro w39 e39; refine Hid.out ?_)
            unfold Hid
            have h39 : Below w38.heap.size w38 w39 := by rw [e39]; exact bel
            replace CO := Lib.hid (CO.out.below h39)
            replace CGA := Lib.hid (CGA.out.below h39)
            replace CGB := Lib.hid (CGB.out.below h39)
            replace CX1 := Lib.hid (CX1.out.below h39)
            replace CX2 := Lib.hid (CX2.out.below h39)
            replace HB := Lib.hid (HB.out.trans (h39.mono HB.out.size))
            clear e39 h39
            refine (HC1.out w39 _ _ _ _ CX1.out CX2.out).mono ?_
            rintro r w40 ⟨⟨B40, d40, rfl, c40⟩, h40⟩
            replace CO := Lib.hid (CO.out.below h40)
            replace CGA := Lib.hid (CGA.out.below h40)
            replace CGB := Lib.hid (CGB.out.below h40)
            replace CX1 := Lib.hid (CX1.out.below h40)
            replace CX2 := Lib.hid (CX2.out.below h40)
            replace HB := Lib.hid (HB.out.trans (h40.mono HB.out.size))
            have CXX := Lib.hid c40
            clear h40 c40
            clear CX1 CX2
            go_wp2_with (at_builtin; refine name_list ?_; intro w41 e41; refine Hid.out ?_)
            unfold Hid
            have hg41 : w40.heap.size < w41.heap.size := by rw [e41]; simp
            have h41 : Below w40.heap.size w40 w41 := by rw [e41]; exact bel
            replace CO := Lib.hid (CO.out.below h41)
            replace CGA := Lib.hid (CGA.out.below h41)
            replace CGB := Lib.hid (CGB.out.below h41)
            replace CXX := Lib.hid (CXX.out.below h41)
            replace HB := Lib.hid (HB.out.trans (h41.mono HB.out.size))
            clear e41 h41
            refine wpList_appJ rfl _ _ rfl _ SZ p2 P2 gb HPP.out.bl rfl rfl hg41 (by omega) CGB.out ?_
            intro B42 d42 w42 h42 c42
            replace CO := Lib.hid (CO.out.below h42)
            replace CGA := Lib.hid (CGA.out.below h42)
            replace CGB := Lib.hid (CGB.out.below h42)
            replace CXX := Lib.hid (CXX.out.below h42)
            replace HB := Lib.hid (HB.out.trans (h42.mono HB.out.size))
            have CY1 := Lib.hid c42
            clear h42 c42 hg41
            go_wp2_with (at_builtin; refine name_list ?_; intro w43 e43; refine Hid.out ?_)
            unfold Hid
            have hg43 : w42.heap.size < w43.heap.size := by rw [e43]; simp
            have h43 : Below w42.heap.size w42 w43 := by rw [e43]; exact bel
            replace CO := Lib.hid (CO.out.below h43)
            replace CGA := Lib.hid (CGA.out.below h43)
            replace CGB := Lib.hid (CGB.out.below h43)
            replace CXX := Lib.hid (CXX.out.below h43)
            replace CY1 := Lib.hid (CY1.out.below h43)
            replace HB := Lib.hid (HB.out.trans (h43.mono HB.out.size))
            clear e43 h43
            refine wpList_appJ rfl _ _ rfl _ k d24 B24 own HP.out.ol rfl rfl hg43 (by omega) CO.out ?_
            intro B44 d44 w44 h44 c44
            replace CO := Lib.hid (CO.out.below h44)
            replace CGA := Lib.hid (CGA.out.below h44)
            replace CGB := Lib.hid (CGB.out.below h44)
            replace CXX := Lib.hid (CXX.out.below h44)
            replace CY1 := Lib.hid (CY1.out.below h44)
            replace HB := Lib.hid (HB.out.trans (h44.mono HB.out.size))
            have CY2 := Lib.hid c44
            clear h44 c44 hg43
            go_wp2_with (go_at_call 16; refine name_calls ?_; intro w45 e45; refine Hid.out ?_)
            unfold Hid
            have h45 : Below w44.heap.size w44 w45 := by rw [e45]; exact bel
            replace CO := Lib.hid (CO.out.below h45)
            replace CGA := Lib.hid (CGA.out.below h45)
            replace CGB := Lib.hid (CGB.out.below h45)
            replace CXX := Lib.hid (CXX.out.below h45)
            replace CY1 := Lib.hid (CY1.out.below h45)
            replace CY2 := Lib.hid (CY2.out.below h45)
            replace HB := Lib.hid (HB.out.trans (h45.mono HB.out.size))
            clear e45 h45
            refine (HC2.out w45 _ _ _ _ CY1.out CY2.out).mono ?_
            rintro r w46 ⟨⟨B46, d46, rfl, c46⟩, h46⟩
            replace CO := Lib.hid (CO.out.below h46)
            replace CGA := Lib.hid (CGA.out.below h46)
            replace CGB := Lib.hid (CGB.out.below h46)
            replace CXX := Lib.hid (CXX.out.below h46)
            replace CY1 := Lib.hid (CY1.out.below h46)
            replace CY2 := Lib.hid (CY2.out.below h46)
            replace HB := Lib.hid (HB.out.trans (h46.mono HB.out.size))
            have CYY := Lib.hid c46
            clear h46 c46
            clear CY1 CY2
            clear HC1 HC2
            go_wp2_with (go_at_call 19; refine name_calls ?_; intro w47 e47; refine Hid.out ?_)
            unfold Hid
            have h47 : Below w46.heap.size w46 w47 := by rw [e47]; exact bel
            replace CO := Lib.hid (CO.out.below h47)
            replace CGA := Lib.hid (CGA.out.below h47)
            replace CGB := Lib.hid (CGB.out.below h47)
            replace CXX := Lib.hid (CXX.out.below h47)
            replace CYY := Lib.hid (CYY.out.below h47)
            replace HB := Lib.hid (HB.out.trans (h47.mono HB.out.size))
            clear e47 h47
            refine (HK1.out w47 _ _ _ _ CGA.out CXX.out).mono ?_
            rintro r w48 ⟨⟨B48, d48, rfl, c48⟩, h48⟩
            replace CO := Lib.hid (CO.out.below h48)
            replace CGA := Lib.hid (CGA.out.below h48)
            replace CGB := Lib.hid (CGB.out.below h48)
            replace CXX := Lib.hid (CXX.out.below h48)
            replace CYY := Lib.hid (CYY.out.below h48)
            replace HB := Lib.hid (HB.out.trans (h48.mono HB.out.size))
            have CU := Lib.hid c48
            clear h48 c48
            clear CGA CXX
            clear HK1
            go_wp2_with (go_at_call 19; refine name_calls ?_; intro w49 e49; refine Hid.out ?_)
            unfold Hid
            have h49 : Below w48.heap.size w48 w49 := by rw [e49]; exact bel
            replace CO := Lib.hid (CO.out.below h49)
            replace CGB := Lib.hid (CGB.out.below h49)
            replace CYY := Lib.hid (CYY.out.below h49)
            replace CU := Lib.hid (CU.out.below h49)
            replace HB := Lib.hid (HB.out.trans (h49.mono HB.out.size))
            clear e49 h49
            refine (HK2.out w49 _ _ _ _ CGB.out CYY.out).mono ?_
            rintro r w50 ⟨⟨B50, d50, rfl, c50⟩, h50⟩
            replace CO := Lib.hid (CO.out.below h50)
            replace CGB := Lib.hid (CGB.out.below h50)
            replace CYY := Lib.hid (CYY.out.below h50)
            replace CU := Lib.hid (CU.out.below h50)
            replace HB := Lib.hid (HB.out.trans (h50.mono HB.out.size))
            have CW := Lib.hid c50
            clear h50 c50
            clear CGB CYY
            clear HK2
            obtain ⟨bu, ou, rfl, lu, qu⟩ := CU.out (by have h1 := HPP.out.ul; omega)
            obtain ⟨bv, ov, rfl, lv, qv⟩ := CW.out (by have h1 := HPP.out.vl; omega)
            obtain ⟨bo, oo, rfl, lo, qo⟩ := CO.out (by have h1 := HP.out.ol; omega)
            have QU := Lib.hid qu
            have QV := Lib.hid qv
            have QO := Lib.hid qo
            clear qu qv qo CU CW CO hLk
            go_wp2
            go_loopw [299] (fun z wr => ∃ j : Nat, j ≤ UL ∧ z = (.int .i64 ((j : Int))) ∧ Below w50.heap.size w50 wr) (fun z _ => UL - (intOf z).toNat)
            case atStart => exact ⟨0, Nat.zero_le _, rfl, Below.refl _ _⟩
            case round =>
              obtain ⟨j, hj, rfl, hb⟩ := hrel
              have HBR := Lib.hid hb
              have hbs := hb.size
              have lu2 : bu < wr.heap.size := by omega
              have lv2 : bv < wr.heap.size := by omega
              have lo2 : bo < wr.heap.size := by omega
              by_cases hjU : j < UL
              · have y0 := (hb.cell (p := ⟨bu, ou + j, none⟩) lu).trans (QU.out j (by rw [HPP.out.ul, ← HXU.out.2]; exact hjU))
                have y1 := (hb.cell (p := ⟨bv, ov + j, none⟩) lv).trans (QV.out j (by rw [HPP.out.vl, ← HXU.out.2]; exact hjU))
                have hsum := HPP.out.sum j
                obtain ⟨U1, U2⟩ := lvl_get HPP.out.lu j
                obtain ⟨V1, V2⟩ := lvl_get HPP.out.lv j
                obtain ⟨U, hU⟩ : ∃ U, U = gu.getD j 0 := ⟨_, rfl⟩
                obtain ⟨V, hV⟩ : ∃ V, V = gv.getD j 0 := ⟨_, rfl⟩
                rw [← hU] at y0 hsum U1 U2
                rw [← hV] at y1 hsum V1 V2
                have HSUM := Lib.hid hsum
                have hj1 : (j : Int) < (UL : Int) := by omega
                clear hsum hU hV hb hbs
                by_cases hA : j + 1 < SZ
                · have hne : (U + V != 0) = false := by have h1 := HSUM.out; rw [if_neg (by omega)] at h1; rw [h1]; rfl
                  have t1 : (j : Int) - (SZ : Int) + 1 < 0 := by omega
                  go_wp2
                  refine Rel.region3 10 (by kernel_rfl) (by kernel_rfl) (by kernel_rfl) ?_
                  simp only [List.take_succ_cons, List.take_zero, List.drop_succ_cons, List.drop_zero, List.filterMap_cons, List.filterMap_nil]
                  iterate 10 (apply Rel.op3; (focus (first | exact Rel.gno rfl | exact Rel.gyes _ true _ rfl rfl rfl | exact Rel.gyes _ false _ rfl rfl rfl)); (focus (intro a W hb hd hbase; obtain ⟨hc, hf⟩ := bcell hb; clear hb hf; simp [Rel.deps, Rel.dep1, Rel.ons, Region.binds, Act.eval] at hd; simp only [Act.eval, List.mem_cons, List.not_mem_nil, not_or, and_imp, or_false, Array.getD_eq_getD_getElem?] at hbase; go_simp; (try go_bits); (try rfl); done)); (try simp only [List.nil_append, List.cons_append]))
                  refine Rel.done3 ?_
                  intro x w51 hb51 hx
                  simp only [Rel.facts, Nat.zero_add, Nat.reduceAdd] at hx
                  obtain ⟨e0, e1, e2, e3, e4, e5, e6, e7, e8, e9, _⟩ := hx
                  simp only [Rel.fill, Nat.zero_add, Nat.reduceAdd, e0, e1, e2, e3, e4, e5, e6, e7, e8, e9]
                  simp only [Act.put, List.setIfInBounds_toArray, List.set_cons_zero, List.set_cons_succ]
                  clear e0 e1 e2 e3 e4 e5 e6 e7 e8 e9
                  have HB5 := Lib.hid (HBR.out.trans (hb51.mono HBR.out.size))
                  clear hb51 y0 y1
                  go_wp2
                  go_roundw
                  case rel => exact ⟨j + 1, by omega, by go_num, HB5.out⟩
                  case measure => simp [intOf]; omega
                · obtain ⟨t, ht⟩ : ∃ t, j + 1 = SZ + t := ⟨j + 1 - SZ, by omega⟩
                  have t1 : (j : Int) - (SZ : Int) + 1 = (t : Int) := by omega
                  have hs := HSUM.out
                  rw [if_pos (by omega), show j - (SZ - 1) = t by omega] at hs
                  have HTJ := Lib.hid ht
                  clear hA ht
                  by_cases hB : t < k
                  · have y2 := (HBR.out.cell (p := ⟨bo, oo + t, none⟩) lo).trans (QO.out t (by rw [← HP.out.ol]; exact hB))
                    obtain ⟨X1, X2⟩ : -1024 ≤ own.getD t 0 ∧ own.getD t 0 ≤ 1024 := HP.out.b t
                    obtain ⟨X, hX⟩ : ∃ X, X = own.getD t 0 := ⟨_, rfl⟩
                    rw [← hX] at y2 hs X1 X2
                    obtain ⟨Z, hZ⟩ : ∃ Z, Z = 2 * (SZ : Int) * X := ⟨_, rfl⟩
                    have hw : wrap64 (2 * (SZ : Int) * X) = Z := by rw [← hZ]; exact Go.IntWalk.wrap64_in _ (by rw [← hZ] at hs; omega)
                    have hne : (U + V != Z) = false := by rw [hs, hZ]; simp
                    have tk : (t : Int) < (k : Int) := by omega
                    clear hs hX hZ hB
                    go_wp2
                    refine Rel.region3 10 (by kernel_rfl) (by kernel_rfl) (by kernel_rfl) ?_
                    simp only [List.take_succ_cons, List.take_zero, List.drop_succ_cons, List.drop_zero, List.filterMap_cons, List.filterMap_nil]
                    iterate 10 (apply Rel.op3; (focus (first | exact Rel.gno rfl | exact Rel.gyes _ true _ rfl rfl rfl | exact Rel.gyes _ false _ rfl rfl rfl)); (focus (intro a W hb hd hbase; obtain ⟨hc, hf⟩ := bcell hb; clear hb hf; simp [Rel.deps, Rel.dep1, Rel.ons, Region.binds, Act.eval] at hd; simp only [Act.eval, List.mem_cons, List.not_mem_nil, not_or, and_imp, or_false, Array.getD_eq_getD_getElem?] at hbase; go_simp; (try go_bits); (try rfl); done)); (try simp only [List.nil_append, List.cons_append]))
                    refine Rel.done3 ?_
                    intro x w51 hb51 hx
                    simp only [Rel.facts, Nat.zero_add, Nat.reduceAdd] at hx
                    obtain ⟨e0, e1, e2, e3, e4, e5, e6, e7, e8, e9, _⟩ := hx
                    simp only [Rel.fill, Nat.zero_add, Nat.reduceAdd, e0, e1, e2, e3, e4, e5, e6, e7, e8, e9]
                    simp only [Act.put, List.setIfInBounds_toArray, List.set_cons_zero, List.set_cons_succ]
                    clear e0 e1 e2 e3 e4 e5 e6 e7 e8 e9
                    have HB5 := Lib.hid (HBR.out.trans (hb51.mono HBR.out.size))
                    clear hb51 y0 y1
                    go_wp2
                    go_roundw
                    case rel => exact ⟨j + 1, by omega, by go_num, HB5.out⟩
                    case measure => simp [intOf]; omega
                  · have hne : (U + V != 0) = false := by rw [hs, List.getD_eq_getElem?_getD, List.getElem?_eq_none (by rw [← HP.out.ol]; omega)]; simp
                    have tk : (k : Int) ≤ (t : Int) := by omega
                    clear hs hB
                    go_wp2
                    refine Rel.region3 10 (by kernel_rfl) (by kernel_rfl) (by kernel_rfl) ?_
                    simp only [List.take_succ_cons, List.take_zero, List.drop_succ_cons, List.drop_zero, List.filterMap_cons, List.filterMap_nil]
                    iterate 10 (apply Rel.op3; (focus (first | exact Rel.gno rfl | exact Rel.gyes _ true _ rfl rfl rfl | exact Rel.gyes _ false _ rfl rfl rfl)); (focus (intro a W hb hd hbase; obtain ⟨hc, hf⟩ := bcell hb; clear hb hf; simp [Rel.deps, Rel.dep1, Rel.ons, Region.binds, Act.eval] at hd; simp only [Act.eval, List.mem_cons, List.not_mem_nil, not_or, and_imp, or_false, Array.getD_eq_getD_getElem?] at hbase; go_simp; (try go_bits); (try rfl); done)); (try simp only [List.nil_append, List.cons_append]))
                    refine Rel.done3 ?_
                    intro x w51 hb51 hx
                    simp only [Rel.facts, Nat.zero_add, Nat.reduceAdd] at hx
                    obtain ⟨e0, e1, e2, e3, e4, e5, e6, e7, e8, e9, _⟩ := hx
                    simp only [Rel.fill, Nat.zero_add, Nat.reduceAdd, e0, e1, e2, e3, e4, e5, e6, e7, e8, e9]
                    simp only [Act.put, List.setIfInBounds_toArray, List.set_cons_zero, List.set_cons_succ]
                    clear e0 e1 e2 e3 e4 e5 e6 e7 e8 e9
                    have HB5 := Lib.hid (HBR.out.trans (hb51.mono HBR.out.size))
                    clear hb51 y0 y1
                    go_wp2
                    go_roundw
                    case rel => exact ⟨j + 1, by omega, by go_num, HB5.out⟩
                    case measure => simp [intOf]; omega
              · obtain rfl : j = UL := by omega
                have HB6 := Lib.hid (HB.out.trans (HBR.out.mono HB.out.size))
                clear hb hbs
                go_wp2_with (go_at_call 6; refine (HCE.out wr HB6.out).mono ?_; rintro r w52 ⟨rfl, h52⟩; refine Hid.out ?_)
                unfold Hid
                have HB7 := Lib.hid (HB6.out.trans (h52.mono HB6.out.size))
                clear h52
                go_wp2
                go_ret
                exact ⟨rfl, HB7.out⟩
    · have h1 : (e != 0) = true := bne_iff_ne.2 h0
      clear h0
      go_wp2_with (go_at_call 6; refine (HCE.out w3 HB.out).mono ?_; rintro r w4 ⟨rfl, h4⟩; refine Hid.out ?_)
      unfold Hid
      have HB4 := Lib.hid (HB.out.trans (h4.mono HB.out.size))
      clear h4 r0 r1 r2 rl rf
      go_wp2
      go_ret
      exact ⟨rfl, HB4.out⟩
end Go.Proofs.YtamldoidalnloaaGreatDoor
