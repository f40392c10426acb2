/- Part 21 of the texts of the claim: N7. -/
import Derived.Test.YtdeapbihbhoefaaDoorRn20

/- The reference's Permitted. -/
namespace Go.Proofs.YtdeapbihbhoefaaDoor
open Go.RowKit
open Calm (bcell Blk)
namespace RelH
open Rel (ons Know)
variable {P : Program} {DS : List Tmp} {w0 : World} {a0 : Act} {T : Ctx → Prop} {Γ : Ctx} {o : Oper} {rest : List Oper}
/-- a state stored into the new block. -/
theorem storeHR {h lv : Int} {n : Nat} {l : List Int} (p v : Tmp) (jp jv : Nat) (hop : o.op = .store 26 (.tmp p) (.tmp v)) (hp : (ons o).contains jp = true) (hv : (ons o).contains jv = true)
    (hΓp : Γ[jp]? = some (some p, NewY 26 3 w0.heap.size)) (hΓv : Γ[jv]? = some (some v, fun _ => KTI h lv n l)) (hg : GOK3 Γ o)
    (hn : walk3 (Sty 26 (KTI h lv n l) w0.heap.size) Tryd.prog DS w0 a0 T (Γ ++ [(o.dst, DoneY 26 (KTI h lv n l) jp w0.heap.size)]) rest) : walk3 (Sty 26 (KTI h lv n l) w0.heap.size) Tryd.prog DS w0 a0 T Γ (o :: rest) :=
  ⟨_, DoneY.st (KTI.ik h lv n l), fun x y he v W ⟨g, h1, h2⟩ => ⟨g, by
      obtain ⟨e, he1, rfl⟩ := List.mem_map.1 (show jp ∈ ons o by simpa using hp)
      obtain ⟨he2, he3⟩ := List.mem_filter.1 he1
      rw [← he e (by simpa using he2) he3]
      exact h1, h2⟩, hg, fun a W x hb hd hbase K Q hK => by
    obtain ⟨e1, g, h1, h2, cs, h3, h4⟩ := dep_at hd jp hp hΓp
    obtain ⟨B, c, h5, h6, h7⟩ := dep_k hd jv hv hΓv
    obtain ⟨cl⟩ := cs
    match cl, h4 with
    | [u0, u1, u2], _ =>
    have hrun := run_storeR h3 hop h1 h5
    have hne : ∀ p, B = some p → p.block ≠ g := fun p hp => (h7 p hp).ne h3 (by decide)
    have hg' := set3_heap (.int .i64 h) (.int .i64 lv) (.slice B n c) h3
    have hkt : KTI h lv n l (.agg #[(.int .i64 h), (.int .i64 lv), .slice B n c]) (((W.setCell ⟨g, 0, none⟩ (.int .i64 h)).setCell ⟨g, 1, none⟩ (.int .i64 lv)).setCell ⟨g, 2, none⟩ (.slice B n c)) :=
      ⟨B, c, rfl, ((h6.sets (fun _ => hne) 0 _).sets (fun _ => hne) 1 _).sets (fun _ => hne) 2 _, fun p hp => (((h7 p hp).sets (hne p hp) 0 _).sets (hne p hp) 1 _).sets (hne p hp) 2 _⟩
    unfold Oper.wp
    rw [hrun]
    refine hK undef _ ⟨g, e1.trans h1, h2, _, hg', hkt⟩ ⟨rfl, rfl, rfl, by simp [World.setCell], by decide, fun k hk => ?_⟩
    rcases Nat.decEq k g with hkg | rfl
    · exact .inl (by rw [Below.heap_setCell _ _ _ _ hkg, Below.heap_setCell _ _ _ _ hkg, Below.heap_setCell _ _ _ _ hkg])
    · exact .inr ⟨h2, ⟨_, h3⟩, _, hg', hkt⟩, hn⟩
end RelH
set_option maxRecDepth 100000 in
set_option maxHeartbeats 4000000 in
theorem rPerm_walk {lk ht rc h lv x : Int} {ts gs ps : List Int} {M L N i : Nat} {A1 A2 A3 : Option Addr} {c1 c2 c3 : Nat} {w : World} (hV : Valid lk ht rc ts gs) (hh : 0 ≤ h ∧ h ≤ 549755813888) (hlv : 0 ≤ lv ∧ lv ≤ 1000) (hM : M = ts.length) (hL : L = gs.length) (hN : N = ps.length) (hMN : M = N + 1) (hi : i < L) (hpb : inB 2048 ps) (hx : -2048 ≤ x ∧ x ≤ 2048)
    (hT : Cells w A1 ts) (hG : Cells w A2 gs) (hP : Cells w A3 ps) :
    Calls Tryd.prog 84 #[.agg #[(.int .i64 lk), (.int .i64 ht), .slice A1 M c1, (.int .i64 rc), .slice A2 L c2], .agg #[(.int .i64 h), (.int .i64 lv), .slice A3 N c3], (.int .i64 x), (.int .i64 ((i : Int)))] w (KP (KV (.bool (decide ((i : Int) ≤ lv + 1) && decide (absI (exF ts ps (byF x (gs.getD i 0))) ≤ rc) && safeB ht rc (coolF lk h + byF x (gs.getD i 0) * byF x (gs.getD i 0)) ts (pushL ps (byF x (gs.getD i 0)))))) w) := by
  have hgb : 0 ≤ gs.getD i 0 ∧ gs.getD i 0 ≤ 16 := hV.gb i
  have hyb := byF_bd hx hgb
  have hM8 : M ≤ 8 := by rw [hM]; exact hV.tl.2
  obtain ⟨g, hg⟩ : ∃ g, g = gs.getD i 0 := ⟨_, rfl⟩
  rw [← hg] at hgb hyb ⊢
  obtain ⟨Y, hY⟩ : ∃ Y, Y = byF x g := ⟨_, rfl⟩
  have HBY : Hid (∀ W, Calls Tryd.prog 85 #[(.int .i64 x), (.int .i64 g)] W (KP (KV (.int .i64 Y)) W)) := Lib.hid (fun W => by rw [hY]; exact (rBy_any x g W hx hgb).mono fun e W' ⟨k1, k2⟩ => ⟨_, k1, rfl, k2 ▸ Below.refl _ _⟩)
  rw [← hY] at hyb ⊢
  have hsq := sq_bd hyb
  have hcl := coolF_bd lk hh.1
  obtain ⟨H1, hH1⟩ : ∃ H1, H1 = coolF lk h + Y * Y := ⟨_, rfl⟩
  obtain ⟨X, hX⟩ : ∃ X, X = exF ts ps Y := ⟨_, rfl⟩
  have hXb := exF_bd (ts := ts) (ps := ps) (y := Y) hV.tb hpb hyb (by omega)
  have HBH : Hid (∀ {u v : Value} (W : World), KG lk ht rc M ts L gs u W → KT h lv N ps v W → Calls Tryd.prog 36 #[u, v, (.int .i64 Y)] W (KP (K2 (KTI H1 lv N (pushL ps Y)) (KV (.int .i64 X))) W)) := Lib.hid (fun W q1 q2 => by rw [hH1, hX]; exact rBehind_K hV.lk ⟨hh.1, by omega⟩ hM hN hMN (by omega) hV.tb hpb hyb q1 q2)
  have HSF : Hid (∀ {u v : Value} (W : World), KG lk ht rc M ts L gs u W → KT H1 lv N (pushL ps Y) v W → Calls Tryd.prog 34 #[u, v] W (KP (KV (.bool (safeB ht rc H1 ts (pushL ps Y)))) W)) := Lib.hid (fun W q1 q2 => rSafe_K hV.lk (by rw [hH1]; omega) hM (by rw [pushL_len]; exact hN) hMN hM8 hV.tb (inB_push hpb hyb) q1 q2)
  rw [← hX] at hXb
  have HAX : Hid (∀ W, Calls Tryd.prog 82 #[(.int .i64 X)] W fun r w' => r = .returned (.int .i64 (absI X)) ∧ W = w') := Lib.hid (fun W => rAbs_any X W ⟨by omega, by omega⟩)
  obtain ⟨SB, hSB⟩ : ∃ SB, SB = safeB ht rc H1 ts (pushL ps Y) := ⟨_, rfl⟩
  rw [← hSB] at HSF
  obtain ⟨AX, hAX⟩ : ∃ AX, AX = absI X := ⟨_, rfl⟩
  rw [← hAX] at HAX
  rw [← hH1, ← hX, ← hSB, ← hAX]
  obtain ⟨R, hR⟩ : ∃ R, R = (decide ((i : Int) ≤ lv + 1) && decide (AX ≤ rc) && SB) := ⟨_, rfl⟩
  rw [← hR]
  have HU := Lib.hid (show KG lk ht rc M ts L gs (.agg #[(.int .i64 lk), (.int .i64 ht), .slice A1 M c1, (.int .i64 rc), .slice A2 L c2]) w from ⟨_, _, _, _, rfl, hT, hG⟩)
  have HVV := Lib.hid (show KT h lv N ps (.agg #[(.int .i64 h), (.int .i64 lv), .slice A3 N c3]) w from ⟨_, _, rfl, hP⟩)
  have HGG := Lib.hid hG
  have HL := Lib.hid hL
  have HG0 := Lib.hid hg
  have HR := Lib.hid hR
  obtain ⟨v1, v2⟩ := hlv
  have hL8 : i ≤ 1000 := by have := hV.gl; omega
  clear hT hG hP hM hN hMN hpb hV hY hH1 hX hSB hAX hL hg hR hyb hgb hsq hcl hXb
  go_enter Tryd.func84, Tryd.ntmps84
  go_wp2
  refine name_world ?_
  intro w1 e1
  have hb1 : Below w.heap.size w w1 := by rw [e1]; (repeat (first | (with_reducible exact Below.refl _ _) | ((with_reducible refine Below.setCell ?_ ?_ _); rotate_left 1; focus (first | (simp; done) | (simp; omega) | (simp at *; omega))) | ((with_reducible refine Below.alloc ?_ ?_ _); rotate_left 1; focus (first | (simp; done) | (simp; omega) | (simp at *; omega))) | (with_reducible refine Below.drew ?_) | ((with_reducible refine Calm.step (by assumption) ?_ ?_); rotate_left 1; focus (first | (simp; done) | (simp; omega) | (simp at *; omega)))))
  have bg := Lib.hid (show Blk w1 w.heap.size #[(.int .i64 lk), (.int .i64 ht), .slice A1 M c1, (.int .i64 rc), .slice A2 L c2] by rw [e1]; (repeat (first | ((with_reducible refine Blk.at_ ?_); focus (first | rfl | (simp; done) | (simp; omega))) | (with_reducible refine Blk.alloc ?_ _) | (with_reducible refine Blk.below ?_ (by with_reducible assumption)) | (with_reducible refine Blk.drew ?_))))
  have bs := Lib.hid (show Blk w1 (w.heap.size + 1) #[(.int .i64 h), (.int .i64 lv), .slice A3 N c3] by rw [e1]; (repeat (first | ((with_reducible refine Blk.at_ ?_); focus (first | rfl | (simp; done) | (simp; omega))) | (with_reducible refine Blk.alloc ?_ _) | (with_reducible refine Blk.below ?_ (by with_reducible assumption)) | (with_reducible refine Blk.drew ?_))))
  have HB1 := Lib.hid hb1
  have HU1 := Lib.hid (KG.st _ _ _ _ _ _ _ _ _ _ HU.out hb1)
  have HV1 := Lib.hid (KT.st _ _ _ _ _ _ _ HVV.out hb1)
  obtain ⟨b, o, hA, hbl, hcell⟩ := (HGG.out.below hb1) (by rw [← HL.out]; omega)
  subst hA
  have hck := hcell i (by rw [← HL.out]; exact hi)
  rw [← HG0.out] at hck
  clear e1 hb1 HU HVV HGG hcell
  obtain ⟨g0, g1, g2, g3, g4, gl, -⟩ := bg.out.o5
  obtain ⟨s0, s1, s2, sl, -⟩ := bs.out.o3
  focus
    refine RelH.region3 (S := Sty 26 (KTI H1 lv N (pushL ps Y)) w1.heap.size) (Sty.trans (KTI.ik _ _ _ _)) (Sty.drawn (by decide)) 15 (by kernel_rfl) (by kernel_rfl) (by kernel_rfl) ?_
    simp only [List.take_succ_cons, List.take_zero, List.drop_succ_cons, List.drop_zero, List.filterMap_cons, List.filterMap_nil]
    iterate 8 (apply RelH.op3 (Sty.refl (by decide)); (focus (first | exact RelH.gno rfl | exact RelH.gyes _ true _ rfl rfl rfl | exact RelH.gyes _ false _ rfl rfl rfl)); (focus (intro a W x hS hd hbase; have hb := hS.below (Nat.le_refl _); clear hS; obtain ⟨hc, hf⟩ := bcell hb; clear hb hf; simp [RelH.deps, RelH.dep1, Rel.ons, Region.binds, Act.eval, KV] at hd; simp only [Act.eval, List.mem_cons, List.not_mem_nil, not_or, and_imp, or_false, Array.getD_eq_getD_getElem?] at hbase; go_simp; (try go_bits); (try rfl); done)); (try simp only [List.nil_append, List.cons_append]))
    refine RelH.callH (fun _ _ h => h.keep) (fun _ _ h => Sty.of (by decide) h) 85 (KV (.int .i64 Y)) ((KV.ik _)) (RelH.gno rfl) ?_ ?_
    · intro a W x hS hd hbase
      have hb := hS.below (Nat.le_refl _)
      have q1 : a.eval (.tmp 14) = _ := (RelH.dep_k hd 2 rfl rfl)
      have q2 : a.eval (.tmp 19) = _ := (RelH.dep_k hd 7 rfl rfl)
      refine ⟨#[a.eval (.tmp 14), a.eval (.tmp 19)], ?_, by rw [q1, q2]; exact HBY.out _⟩
      clear hd hbase hb hS
      go_simp
      (first | done | rfl | (refine ⟨?_, ?_⟩ <;> rfl))
    (try simp only [List.nil_append, List.cons_append])
    refine RelH.callH (fun _ _ h => h.keep) (fun _ _ h => Sty.of (by decide) h) 36 (K2 (KTI H1 lv N (pushL ps Y)) (KV (.int .i64 X))) ((K2.ik (KTI.ik _ _ _ _) (KV.ik _))) (RelH.gno rfl) ?_ ?_
    · intro a W x hS hd hbase
      have hb := hS.below (Nat.le_refl _)
      have q1 : a.eval (.tmp 12) = _ := (RelH.dep_k hd 0 rfl rfl)
      have q2 : a.eval (.tmp 13) = _ := (RelH.dep_k hd 1 rfl rfl)
      have q3 : a.eval (.tmp 20) = _ := (RelH.dep_k hd 8 rfl rfl)
      refine ⟨#[a.eval (.tmp 12), a.eval (.tmp 13), a.eval (.tmp 20)], ?_, by rw [q1, q2, q3]; exact HBH.out _ (KG.st _ _ _ _ _ _ _ _ _ _ HU1.out hb) (KT.st _ _ _ _ _ _ _ HV1.out hb)⟩
      clear hd hbase hb hS
      go_simp
      (first | done | rfl | (refine ⟨?_, ?_⟩ <;> rfl))
    (try simp only [List.nil_append, List.cons_append])
    refine RelH.mvH (Sty.refl (by decide)) (fun _ _ h => h.keep) 21 9 rfl rfl rfl ((K2.ik (KTI.ik _ _ _ _) (KV.ik _))) (RelH.gno rfl) ?_
    (try simp only [List.nil_append, List.cons_append])
    refine RelH.ext20H (Sty.refl (by decide)) (fun _ _ h => h.keep) 11 10 rfl rfl rfl ((KTI.ik _ _ _ _)) (RelH.gno rfl) ?_
    (try simp only [List.nil_append, List.cons_append])
    refine RelH.ext21H (Sty.refl (by decide)) (fun _ _ h => h.keep) 11 10 rfl rfl rfl ((KV.ik _)) (RelH.gno rfl) ?_
    (try simp only [List.nil_append, List.cons_append])
    (refine RelH.allocH (by decide) (n := 3) (fun cs W h => by obtain ⟨_, _, e, _⟩ := h; cases e; rfl) #[(.int .i64 0), (.int .i64 0), .slice none 0 0] rfl (RelH.gno rfl) (by intro a W; go_simp) ?_; (try simp only [List.nil_append, List.cons_append]))
    refine RelH.storeHR 9 22 13 11 rfl rfl rfl rfl rfl (RelH.gno rfl) ?_
    (try simp only [List.nil_append, List.cons_append])
    refine RelH.done3 ?_
    intro x w21 hS21 hx
    have h21 := hS21.below (Nat.le_refl _)
    clear hS21
    simp only [RelH.facts, Nat.zero_add, Nat.reduceAdd] at hx
    obtain ⟨e0, e1, e2, e3, e4, e5, e6, e7, e8, _, _, _, e12, _, ⟨gb21, e13, hg21, cs21, hG21, B21, c21, ec21, hc21, hi21⟩, _⟩ := hx
    have e8 : x 8 = _ := e8
    have e12 : x 12 = _ := e12
    cases ec21
    simp only [RelH.fill, Nat.zero_add, Nat.reduceAdd, e0, e1, e2, e3, e4, e5, e6, e7, e8, e12, e13]
    simp only [Act.put, List.setIfInBounds_toArray, List.set_cons_zero, List.set_cons_succ]
    clear e0 e1 e2 e3 e4 e5 e6 e7 e8 e12 e13
    have bg_21 := Lib.hid (bg.out.below h21)
    have bs_21 := Lib.hid (bs.out.below h21)
    have HB21 := Lib.hid (HB1.out.trans (h21.mono HB1.out.size))
    have HB2 := Lib.hid HB21.out
    have HU2 := Lib.hid (KG.st _ _ _ _ _ _ _ _ _ _ HU1.out h21)
    have HT2 := Lib.hid (show KT H1 lv N (pushL ps Y) (.agg #[(.int .i64 H1), (.int .i64 lv), .slice B21 N c21]) w21 from ⟨_, _, rfl, hc21⟩)
    have HSS : Hid (∀ {u v : Value} (W : World), KG lk ht rc M ts L gs u W → KT H1 lv N (pushL ps Y) v W → Calls Tryd.prog 34 #[u, v] W fun r w' => r = .returned (.bool SB) ∧ Below W.heap.size W w') := Lib.hid (fun W q1 q2 => (HSF.out W q1 q2).mono fun e W' ⟨v, k1, k2, k3⟩ => ⟨by rw [k1, show v = _ from k2], k3⟩)
    have bn := Calm.Blk.row hG21
    obtain ⟨n0, n1, n2, nl, -⟩ := bn.o3
    clear g0 g1 g2 g3 g4 gl s0 s1 s2 sl hck hc21 hi21 hG21 bn HBY HBH HSF HU1 HV1
    obtain ⟨g0, g1, g2, g3, g4, gl, -⟩ := bg_21.out.o5
    obtain ⟨s0, s1, s2, sl, -⟩ := bs_21.out.o3
    by_cases hc1 : (i : Int) ≤ lv + 1
    · have ha : decide ((i : Int) ≤ lv + 1) = true := decide_eq_true hc1
      by_cases hc2 : AX ≤ rc
      · have hbx : decide (AX ≤ rc) = true := decide_eq_true hc2
        go_wp2
        refine Calm.all_below (by kernel_rfl) (by kernel_rfl) ?_
        (first | (apply Calm.op_move; (focus rfl); (focus (first | exact .inl rfl | exact .inr rfl)); (focus ((try simp only [Act.eval, Array.getD_eq_getD_getElem?, List.getElem?_toArray, List.getElem?_cons_succ, List.getElem?_cons_zero, Option.getD_some]); rfl)); (try simp only [Act.put, List.setIfInBounds_toArray, List.set_cons_zero, List.set_cons_succ])) | (apply Calm.op_not; (focus rfl); (try simp only [Act.put, List.setIfInBounds_toArray, List.set_cons_zero, List.set_cons_succ])) | (apply Calm.op; (focus rfl); (focus (intro W hb; obtain ⟨hc, hf⟩ := bcell hb; clear hb hf; go_simp; (try go_bits); (try rfl); done)); (try simp only [Act.put, List.setIfInBounds_toArray, List.set_cons_zero, List.set_cons_succ])))
        (first | (apply Calm.op_move; (focus rfl); (focus (first | exact .inl rfl | exact .inr rfl)); (focus ((try simp only [Act.eval, Array.getD_eq_getD_getElem?, List.getElem?_toArray, List.getElem?_cons_succ, List.getElem?_cons_zero, Option.getD_some]); rfl)); (try simp only [Act.put, List.setIfInBounds_toArray, List.set_cons_zero, List.set_cons_succ])) | (apply Calm.op_not; (focus rfl); (try simp only [Act.put, List.setIfInBounds_toArray, List.set_cons_zero, List.set_cons_succ])) | (apply Calm.op; (focus rfl); (focus (intro W hb; obtain ⟨hc, hf⟩ := bcell hb; clear hb hf; go_simp; (try go_bits); (try rfl); done)); (try simp only [Act.put, List.setIfInBounds_toArray, List.set_cons_zero, List.set_cons_succ])))
        (first | (apply Calm.op_move; (focus rfl); (focus (first | exact .inl rfl | exact .inr rfl)); (focus ((try simp only [Act.eval, Array.getD_eq_getD_getElem?, List.getElem?_toArray, List.getElem?_cons_succ, List.getElem?_cons_zero, Option.getD_some]); rfl)); (try simp only [Act.put, List.setIfInBounds_toArray, List.set_cons_zero, List.set_cons_succ])) | (apply Calm.op_not; (focus rfl); (try simp only [Act.put, List.setIfInBounds_toArray, List.set_cons_zero, List.set_cons_succ])) | (apply Calm.op; (focus rfl); (focus (intro W hb; obtain ⟨hc, hf⟩ := bcell hb; clear hb hf; go_simp; (try go_bits); (try rfl); done)); (try simp only [Act.put, List.setIfInBounds_toArray, List.set_cons_zero, List.set_cons_succ])))
        (first | (apply Calm.op_move; (focus rfl); (focus (first | exact .inl rfl | exact .inr rfl)); (focus ((try simp only [Act.eval, Array.getD_eq_getD_getElem?, List.getElem?_toArray, List.getElem?_cons_succ, List.getElem?_cons_zero, Option.getD_some]); rfl)); (try simp only [Act.put, List.setIfInBounds_toArray, List.set_cons_zero, List.set_cons_succ])) | (apply Calm.op_not; (focus rfl); (try simp only [Act.put, List.setIfInBounds_toArray, List.set_cons_zero, List.set_cons_succ])) | (apply Calm.op; (focus rfl); (focus (intro W hb; obtain ⟨hc, hf⟩ := bcell hb; clear hb hf; go_simp; (try go_bits); (try rfl); done)); (try simp only [Act.put, List.setIfInBounds_toArray, List.set_cons_zero, List.set_cons_succ])))
        (first | (apply Calm.op_move; (focus rfl); (focus (first | exact .inl rfl | exact .inr rfl)); (focus ((try simp only [Act.eval, Array.getD_eq_getD_getElem?, List.getElem?_toArray, List.getElem?_cons_succ, List.getElem?_cons_zero, Option.getD_some]); rfl)); (try simp only [Act.put, List.setIfInBounds_toArray, List.set_cons_zero, List.set_cons_succ])) | (apply Calm.op_not; (focus rfl); (try simp only [Act.put, List.setIfInBounds_toArray, List.set_cons_zero, List.set_cons_succ])) | (apply Calm.op; (focus rfl); (focus (intro W hb; obtain ⟨hc, hf⟩ := bcell hb; clear hb hf; go_simp; (try go_bits); (try rfl); done)); (try simp only [Act.put, List.setIfInBounds_toArray, List.set_cons_zero, List.set_cons_succ])))
        (try simp only [ha])
        (first | (apply Calm.op_move; (focus rfl); (focus (first | exact .inl rfl | exact .inr rfl)); (focus ((try simp only [Act.eval, Array.getD_eq_getD_getElem?, List.getElem?_toArray, List.getElem?_cons_succ, List.getElem?_cons_zero, Option.getD_some]); rfl)); (try simp only [Act.put, List.setIfInBounds_toArray, List.set_cons_zero, List.set_cons_succ])) | (apply Calm.op_not; (focus rfl); (try simp only [Act.put, List.setIfInBounds_toArray, List.set_cons_zero, List.set_cons_succ])) | (apply Calm.op; (focus rfl); (focus (intro W hb; obtain ⟨hc, hf⟩ := bcell hb; clear hb hf; go_simp; (try go_bits); (try rfl); done)); (try simp only [Act.put, List.setIfInBounds_toArray, List.set_cons_zero, List.set_cons_succ])))
        (first | (apply Calm.op_move; (focus rfl); (focus (first | exact .inl rfl | exact .inr rfl)); (focus ((try simp only [Act.eval, Array.getD_eq_getD_getElem?, List.getElem?_toArray, List.getElem?_cons_succ, List.getElem?_cons_zero, Option.getD_some]); rfl)); (try simp only [Act.put, List.setIfInBounds_toArray, List.set_cons_zero, List.set_cons_succ])) | (apply Calm.op_not; (focus rfl); (try simp only [Act.put, List.setIfInBounds_toArray, List.set_cons_zero, List.set_cons_succ])) | (apply Calm.op; (focus rfl); (focus (intro W hb; obtain ⟨hc, hf⟩ := bcell hb; clear hb hf; go_simp; (try go_bits); (try rfl); done)); (try simp only [Act.put, List.setIfInBounds_toArray, List.set_cons_zero, List.set_cons_succ])))
        apply Calm.op_call
        focus rfl
        focus (intro W hb; obtain ⟨hc, hf⟩ := bcell hb; clear hb hf; go_simp; refine ⟨?_, ?_⟩; rfl; rfl)
        focus (intro W hb; exact Calm.call_same hb (HAX.out _))
        (try simp only [Act.put, List.setIfInBounds_toArray, List.set_cons_zero, List.set_cons_succ])
        (first | (apply Calm.op_move; (focus rfl); (focus (first | exact .inl rfl | exact .inr rfl)); (focus ((try simp only [Act.eval, Array.getD_eq_getD_getElem?, List.getElem?_toArray, List.getElem?_cons_succ, List.getElem?_cons_zero, Option.getD_some]); rfl)); (try simp only [Act.put, List.setIfInBounds_toArray, List.set_cons_zero, List.set_cons_succ])) | (apply Calm.op_not; (focus rfl); (try simp only [Act.put, List.setIfInBounds_toArray, List.set_cons_zero, List.set_cons_succ])) | (apply Calm.op; (focus rfl); (focus (intro W hb; obtain ⟨hc, hf⟩ := bcell hb; clear hb hf; go_simp; (try go_bits); (try rfl); done)); (try simp only [Act.put, List.setIfInBounds_toArray, List.set_cons_zero, List.set_cons_succ])))
        (first | (apply Calm.op_move; (focus rfl); (focus (first | exact .inl rfl | exact .inr rfl)); (focus ((try simp only [Act.eval, Array.getD_eq_getD_getElem?, List.getElem?_toArray, List.getElem?_cons_succ, List.getElem?_cons_zero, Option.getD_some]); rfl)); (try simp only [Act.put, List.setIfInBounds_toArray, List.set_cons_zero, List.set_cons_succ])) | (apply Calm.op_not; (focus rfl); (try simp only [Act.put, List.setIfInBounds_toArray, List.set_cons_zero, List.set_cons_succ])) | (apply Calm.op; (focus rfl); (focus (intro W hb; obtain ⟨hc, hf⟩ := bcell hb; clear hb hf; go_simp; (try go_bits); (try rfl); done)); (try simp only [Act.put, List.setIfInBounds_toArray, List.set_cons_zero, List.set_cons_succ])))
        (first | (apply Calm.op_move; (focus rfl); (focus (first | exact .inl rfl | exact .inr rfl)); (focus ((try simp only [Act.eval, Array.getD_eq_getD_getElem?, List.getElem?_toArray, List.getElem?_cons_succ, List.getElem?_cons_zero, Option.getD_some]); rfl)); (try simp only [Act.put, List.setIfInBounds_toArray, List.set_cons_zero, List.set_cons_succ])) | (apply Calm.op_not; (focus rfl); (try simp only [Act.put, List.setIfInBounds_toArray, List.set_cons_zero, List.set_cons_succ])) | (apply Calm.op; (focus rfl); (focus (intro W hb; obtain ⟨hc, hf⟩ := bcell hb; clear hb hf; go_simp; (try go_bits); (try rfl); done)); (try simp only [Act.put, List.setIfInBounds_toArray, List.set_cons_zero, List.set_cons_succ])))
        (try simp only [hbx])
        (first | (apply Calm.op_move; (focus rfl); (focus (first | exact .inl rfl | exact .inr rfl)); (focus ((try simp only [Act.eval, Array.getD_eq_getD_getElem?, List.getElem?_toArray, List.getElem?_cons_succ, List.getElem?_cons_zero, Option.getD_some]); rfl)); (try simp only [Act.put, List.setIfInBounds_toArray, List.set_cons_zero, List.set_cons_succ])) | (apply Calm.op_not; (focus rfl); (try simp only [Act.put, List.setIfInBounds_toArray, List.set_cons_zero, List.set_cons_succ])) | (apply Calm.op; (focus rfl); (focus (intro W hb; obtain ⟨hc, hf⟩ := bcell hb; clear hb hf; go_simp; (try go_bits); (try rfl); done)); (try simp only [Act.put, List.setIfInBounds_toArray, List.set_cons_zero, List.set_cons_succ])))
        (try simp only [hbx])
        (first | (apply Calm.op_move; (focus rfl); (focus (first | exact .inl rfl | exact .inr rfl)); (focus ((try simp only [Act.eval, Array.getD_eq_getD_getElem?, List.getElem?_toArray, List.getElem?_cons_succ, List.getElem?_cons_zero, Option.getD_some]); rfl)); (try simp only [Act.put, List.setIfInBounds_toArray, List.set_cons_zero, List.set_cons_succ])) | (apply Calm.op_not; (focus rfl); (try simp only [Act.put, List.setIfInBounds_toArray, List.set_cons_zero, List.set_cons_succ])) | (apply Calm.op; (focus rfl); (focus (intro W hb; obtain ⟨hc, hf⟩ := bcell hb; clear hb hf; go_simp; (try go_bits); (try rfl); done)); (try simp only [Act.put, List.setIfInBounds_toArray, List.set_cons_zero, List.set_cons_succ])))
        (try simp only [hbx])
        (first | (apply Calm.op_move; (focus rfl); (focus (first | exact .inl rfl | exact .inr rfl)); (focus ((try simp only [Act.eval, Array.getD_eq_getD_getElem?, List.getElem?_toArray, List.getElem?_cons_succ, List.getElem?_cons_zero, Option.getD_some]); rfl)); (try simp only [Act.put, List.setIfInBounds_toArray, List.set_cons_zero, List.set_cons_succ])) | (apply Calm.op_not; (focus rfl); (try simp only [Act.put, List.setIfInBounds_toArray, List.set_cons_zero, List.set_cons_succ])) | (apply Calm.op; (focus rfl); (focus (intro W hb; obtain ⟨hc, hf⟩ := bcell hb; clear hb hf; go_simp; (try go_bits); (try rfl); done)); (try simp only [Act.put, List.setIfInBounds_toArray, List.set_cons_zero, List.set_cons_succ])))
        (first | (apply Calm.op_move; (focus rfl); (focus (first | exact .inl rfl | exact .inr rfl)); (focus ((try simp only [Act.eval, Array.getD_eq_getD_getElem?, List.getElem?_toArray, List.getElem?_cons_succ, List.getElem?_cons_zero, Option.getD_some]); rfl)); (try simp only [Act.put, List.setIfInBounds_toArray, List.set_cons_zero, List.set_cons_succ])) | (apply Calm.op_not; (focus rfl); (try simp only [Act.put, List.setIfInBounds_toArray, List.set_cons_zero, List.set_cons_succ])) | (apply Calm.op; (focus rfl); (focus (intro W hb; obtain ⟨hc, hf⟩ := bcell hb; clear hb hf; go_simp; (try go_bits); (try rfl); done)); (try simp only [Act.put, List.setIfInBounds_toArray, List.set_cons_zero, List.set_cons_succ])))
        apply Calm.op_call
        focus rfl
        focus (intro W hb; obtain ⟨hc, hf⟩ := bcell hb; clear hb hf; go_simp; refine ⟨?_, ?_⟩; rfl; rfl)
        focus (intro W hb; exact Calm.call_below hb (HSS.out _ (KG.st _ _ _ _ _ _ _ _ _ _ HU2.out hb) (KT.st _ _ _ _ _ _ _ HT2.out hb)))
        (try simp only [Act.put, List.setIfInBounds_toArray, List.set_cons_zero, List.set_cons_succ])
        (first | (apply Calm.op_move; (focus rfl); (focus (first | exact .inl rfl | exact .inr rfl)); (focus ((try simp only [Act.eval, Array.getD_eq_getD_getElem?, List.getElem?_toArray, List.getElem?_cons_succ, List.getElem?_cons_zero, Option.getD_some]); rfl)); (try simp only [Act.put, List.setIfInBounds_toArray, List.set_cons_zero, List.set_cons_succ])) | (apply Calm.op_not; (focus rfl); (try simp only [Act.put, List.setIfInBounds_toArray, List.set_cons_zero, List.set_cons_succ])) | (apply Calm.op; (focus rfl); (focus (intro W hb; obtain ⟨hc, hf⟩ := bcell hb; clear hb hf; go_simp; (try go_bits); (try rfl); done)); (try simp only [Act.put, List.setIfInBounds_toArray, List.set_cons_zero, List.set_cons_succ])))
        (first | (apply Calm.op_move; (focus rfl); (focus (first | exact .inl rfl | exact .inr rfl)); (focus ((try simp only [Act.eval, Array.getD_eq_getD_getElem?, List.getElem?_toArray, List.getElem?_cons_succ, List.getElem?_cons_zero, Option.getD_some]); rfl)); (try simp only [Act.put, List.setIfInBounds_toArray, List.set_cons_zero, List.set_cons_succ])) | (apply Calm.op_not; (focus rfl); (try simp only [Act.put, List.setIfInBounds_toArray, List.set_cons_zero, List.set_cons_succ])) | (apply Calm.op; (focus rfl); (focus (intro W hb; obtain ⟨hc, hf⟩ := bcell hb; clear hb hf; go_simp; (try go_bits); (try rfl); done)); (try simp only [Act.put, List.setIfInBounds_toArray, List.set_cons_zero, List.set_cons_succ])))
        refine wpQuiet_nil ?_
        intro w9 hb9
        obtain ⟨hb9c, hb9f⟩ := bcell hb9
        have hb9z := hb9.size
        (try simp at hb9z)
        (try have hb9z0 : w.heap.size < w9.heap.size := by omega)
        (try have hb9z1 : w.heap.size + 1 < w9.heap.size := by omega)
        (try have hb9z2 : w.heap.size + 1 + 1 < w9.heap.size := by omega)
        (try have hb9z3 : w.heap.size + 1 + 1 + 1 < w9.heap.size := by omega)
        (try have hb9z4 : w.heap.size + 1 + 1 + 1 + 1 < w9.heap.size := by omega)
        (try have hb9z5 : w.heap.size + 1 + 1 + 1 + 1 + 1 < w9.heap.size := by omega)
        have HB9 := Lib.hid (HB2.out.trans (hb9.mono HB2.out.size))
        go_wp2
        go_ret
        exact ⟨_, by rw [HR.out]; first | rfl | (simp [ha, hbx]; done) | (simp [ha]; done), rfl, HB9.out⟩
      · have hbx : decide (AX ≤ rc) = false := decide_eq_false hc2
        go_wp2
        refine Calm.all_below (by kernel_rfl) (by kernel_rfl) ?_
        (first | (apply Calm.op_move; (focus rfl); (focus (first | exact .inl rfl | exact .inr rfl)); (focus ((try simp only [Act.eval, Array.getD_eq_getD_getElem?, List.getElem?_toArray, List.getElem?_cons_succ, List.getElem?_cons_zero, Option.getD_some]); rfl)); (try simp only [Act.put, List.setIfInBounds_toArray, List.set_cons_zero, List.set_cons_succ])) | (apply Calm.op_not; (focus rfl); (try simp only [Act.put, List.setIfInBounds_toArray, List.set_cons_zero, List.set_cons_succ])) | (apply Calm.op; (focus rfl); (focus (intro W hb; obtain ⟨hc, hf⟩ := bcell hb; clear hb hf; go_simp; (try go_bits); (try rfl); done)); (try simp only [Act.put, List.setIfInBounds_toArray, List.set_cons_zero, List.set_cons_succ])))
        (first | (apply Calm.op_move; (focus rfl); (focus (first | exact .inl rfl | exact .inr rfl)); (focus ((try simp only [Act.eval, Array.getD_eq_getD_getElem?, List.getElem?_toArray, List.getElem?_cons_succ, List.getElem?_cons_zero, Option.getD_some]); rfl)); (try simp only [Act.put, List.setIfInBounds_toArray, List.set_cons_zero, List.set_cons_succ])) | (apply Calm.op_not; (focus rfl); (try simp only [Act.put, List.setIfInBounds_toArray, List.set_cons_zero, List.set_cons_succ])) | (apply Calm.op; (focus rfl); (focus (intro W hb; obtain ⟨hc, hf⟩ := bcell hb; clear hb hf; go_simp; (try go_bits); (try rfl); done)); (try simp only [Act.put, List.setIfInBounds_toArray, List.set_cons_zero, List.set_cons_succ])))
        (first | (apply Calm.op_move; (focus rfl); (focus (first | exact .inl rfl | exact .inr rfl)); (focus ((try simp only [Act.eval, Array.getD_eq_getD_getElem?, List.getElem?_toArray, List.getElem?_cons_succ, List.getElem?_cons_zero, Option.getD_some]); rfl)); (try simp only [Act.put, List.setIfInBounds_toArray, List.set_cons_zero, List.set_cons_succ])) | (apply Calm.op_not; (focus rfl); (try simp only [Act.put, List.setIfInBounds_toArray, List.set_cons_zero, List.set_cons_succ])) | (apply Calm.op; (focus rfl); (focus (intro W hb; obtain ⟨hc, hf⟩ := bcell hb; clear hb hf; go_simp; (try go_bits); (try rfl); done)); (try simp only [Act.put, List.setIfInBounds_toArray, List.set_cons_zero, List.set_cons_succ])))
        (first | (apply Calm.op_move; (focus rfl); (focus (first | exact .inl rfl | exact .inr rfl)); (focus ((try simp only [Act.eval, Array.getD_eq_getD_getElem?, List.getElem?_toArray, List.getElem?_cons_succ, List.getElem?_cons_zero, Option.getD_some]); rfl)); (try simp only [Act.put, List.setIfInBounds_toArray, List.set_cons_zero, List.set_cons_succ])) | (apply Calm.op_not; (focus rfl); (try simp only [Act.put, List.setIfInBounds_toArray, List.set_cons_zero, List.set_cons_succ])) | (apply Calm.op; (focus rfl); (focus (intro W hb; obtain ⟨hc, hf⟩ := bcell hb; clear hb hf; go_simp; (try go_bits); (try rfl); done)); (try simp only [Act.put, List.setIfInBounds_toArray, List.set_cons_zero, List.set_cons_succ])))
        (first | (apply Calm.op_move; (focus rfl); (focus (first | exact .inl rfl | exact .inr rfl)); (focus ((try simp only [Act.eval, Array.getD_eq_getD_getElem?, List.getElem?_toArray, List.getElem?_cons_succ, List.getElem?_cons_zero, Option.getD_some]); rfl)); (try simp only [Act.put, List.setIfInBounds_toArray, List.set_cons_zero, List.set_cons_succ])) | (apply Calm.op_not; (focus rfl); (try simp only [Act.put, List.setIfInBounds_toArray, List.set_cons_zero, List.set_cons_succ])) | (apply Calm.op; (focus rfl); (focus (intro W hb; obtain ⟨hc, hf⟩ := bcell hb; clear hb hf; go_simp; (try go_bits); (try rfl); done)); (try simp only [Act.put, List.setIfInBounds_toArray, List.set_cons_zero, List.set_cons_succ])))
        (try simp only [ha])
        (first | (apply Calm.op_move; (focus rfl); (focus (first | exact .inl rfl | exact .inr rfl)); (focus ((try simp only [Act.eval, Array.getD_eq_getD_getElem?, List.getElem?_toArray, List.getElem?_cons_succ, List.getElem?_cons_zero, Option.getD_some]); rfl)); (try simp only [Act.put, List.setIfInBounds_toArray, List.set_cons_zero, List.set_cons_succ])) | (apply Calm.op_not; (focus rfl); (try simp only [Act.put, List.setIfInBounds_toArray, List.set_cons_zero, List.set_cons_succ])) | (apply Calm.op; (focus rfl); (focus (intro W hb; obtain ⟨hc, hf⟩ := bcell hb; clear hb hf; go_simp; (try go_bits); (try rfl); done)); (try simp only [Act.put, List.setIfInBounds_toArray, List.set_cons_zero, List.set_cons_succ])))
        (first | (apply Calm.op_move; (focus rfl); (focus (first | exact .inl rfl | exact .inr rfl)); (focus ((try simp only [Act.eval, Array.getD_eq_getD_getElem?, List.getElem?_toArray, List.getElem?_cons_succ, List.getElem?_cons_zero, Option.getD_some]); rfl)); (try simp only [Act.put, List.setIfInBounds_toArray, List.set_cons_zero, List.set_cons_succ])) | (apply Calm.op_not; (focus rfl); (try simp only [Act.put, List.setIfInBounds_toArray, List.set_cons_zero, List.set_cons_succ])) | (apply Calm.op; (focus rfl); (focus (intro W hb; obtain ⟨hc, hf⟩ := bcell hb; clear hb hf; go_simp; (try go_bits); (try rfl); done)); (try simp only [Act.put, List.setIfInBounds_toArray, List.set_cons_zero, List.set_cons_succ])))
        apply Calm.op_call
        focus rfl
        focus (intro W hb; obtain ⟨hc, hf⟩ := bcell hb; clear hb hf; go_simp; refine ⟨?_, ?_⟩; rfl; rfl)
        focus (intro W hb; exact Calm.call_same hb (HAX.out _))
        (try simp only [Act.put, List.setIfInBounds_toArray, List.set_cons_zero, List.set_cons_succ])
        (first | (apply Calm.op_move; (focus rfl); (focus (first | exact .inl rfl | exact .inr rfl)); (focus ((try simp only [Act.eval, Array.getD_eq_getD_getElem?, List.getElem?_toArray, List.getElem?_cons_succ, List.getElem?_cons_zero, Option.getD_some]); rfl)); (try simp only [Act.put, List.setIfInBounds_toArray, List.set_cons_zero, List.set_cons_succ])) | (apply Calm.op_not; (focus rfl); (try simp only [Act.put, List.setIfInBounds_toArray, List.set_cons_zero, List.set_cons_succ])) | (apply Calm.op; (focus rfl); (focus (intro W hb; obtain ⟨hc, hf⟩ := bcell hb; clear hb hf; go_simp; (try go_bits); (try rfl); done)); (try simp only [Act.put, List.setIfInBounds_toArray, List.set_cons_zero, List.set_cons_succ])))
        (first | (apply Calm.op_move; (focus rfl); (focus (first | exact .inl rfl | exact .inr rfl)); (focus ((try simp only [Act.eval, Array.getD_eq_getD_getElem?, List.getElem?_toArray, List.getElem?_cons_succ, List.getElem?_cons_zero, Option.getD_some]); rfl)); (try simp only [Act.put, List.setIfInBounds_toArray, List.set_cons_zero, List.set_cons_succ])) | (apply Calm.op_not; (focus rfl); (try simp only [Act.put, List.setIfInBounds_toArray, List.set_cons_zero, List.set_cons_succ])) | (apply Calm.op; (focus rfl); (focus (intro W hb; obtain ⟨hc, hf⟩ := bcell hb; clear hb hf; go_simp; (try go_bits); (try rfl); done)); (try simp only [Act.put, List.setIfInBounds_toArray, List.set_cons_zero, List.set_cons_succ])))
        (first | (apply Calm.op_move; (focus rfl); (focus (first | exact .inl rfl | exact .inr rfl)); (focus ((try simp only [Act.eval, Array.getD_eq_getD_getElem?, List.getElem?_toArray, List.getElem?_cons_succ, List.getElem?_cons_zero, Option.getD_some]); rfl)); (try simp only [Act.put, List.setIfInBounds_toArray, List.set_cons_zero, List.set_cons_succ])) | (apply Calm.op_not; (focus rfl); (try simp only [Act.put, List.setIfInBounds_toArray, List.set_cons_zero, List.set_cons_succ])) | (apply Calm.op; (focus rfl); (focus (intro W hb; obtain ⟨hc, hf⟩ := bcell hb; clear hb hf; go_simp; (try go_bits); (try rfl); done)); (try simp only [Act.put, List.setIfInBounds_toArray, List.set_cons_zero, List.set_cons_succ])))
        (try simp only [hbx])
        (first | (apply Calm.op_move; (focus rfl); (focus (first | exact .inl rfl | exact .inr rfl)); (focus ((try simp only [Act.eval, Array.getD_eq_getD_getElem?, List.getElem?_toArray, List.getElem?_cons_succ, List.getElem?_cons_zero, Option.getD_some]); rfl)); (try simp only [Act.put, List.setIfInBounds_toArray, List.set_cons_zero, List.set_cons_succ])) | (apply Calm.op_not; (focus rfl); (try simp only [Act.put, List.setIfInBounds_toArray, List.set_cons_zero, List.set_cons_succ])) | (apply Calm.op; (focus rfl); (focus (intro W hb; obtain ⟨hc, hf⟩ := bcell hb; clear hb hf; go_simp; (try go_bits); (try rfl); done)); (try simp only [Act.put, List.setIfInBounds_toArray, List.set_cons_zero, List.set_cons_succ])))
        (try simp only [hbx])
        (first | (apply Calm.op_move; (focus rfl); (focus (first | exact .inl rfl | exact .inr rfl)); (focus ((try simp only [Act.eval, Array.getD_eq_getD_getElem?, List.getElem?_toArray, List.getElem?_cons_succ, List.getElem?_cons_zero, Option.getD_some]); rfl)); (try simp only [Act.put, List.setIfInBounds_toArray, List.set_cons_zero, List.set_cons_succ])) | (apply Calm.op_not; (focus rfl); (try simp only [Act.put, List.setIfInBounds_toArray, List.set_cons_zero, List.set_cons_succ])) | (apply Calm.op; (focus rfl); (focus (intro W hb; obtain ⟨hc, hf⟩ := bcell hb; clear hb hf; go_simp; (try go_bits); (try rfl); done)); (try simp only [Act.put, List.setIfInBounds_toArray, List.set_cons_zero, List.set_cons_succ])))
        (try simp only [hbx])
        iterate 3 ((with_reducible refine Calm.op_not ?_ ?_); (focus rfl); (try simp only [Act.put, List.setIfInBounds_toArray, List.set_cons_zero, List.set_cons_succ]))
        (first | (apply Calm.op_move; (focus rfl); (focus (first | exact .inl rfl | exact .inr rfl)); (focus ((try simp only [Act.eval, Array.getD_eq_getD_getElem?, List.getElem?_toArray, List.getElem?_cons_succ, List.getElem?_cons_zero, Option.getD_some]); rfl)); (try simp only [Act.put, List.setIfInBounds_toArray, List.set_cons_zero, List.set_cons_succ])) | (apply Calm.op_not; (focus rfl); (try simp only [Act.put, List.setIfInBounds_toArray, List.set_cons_zero, List.set_cons_succ])) | (apply Calm.op; (focus rfl); (focus (intro W hb; obtain ⟨hc, hf⟩ := bcell hb; clear hb hf; go_simp; (try go_bits); (try rfl); done)); (try simp only [Act.put, List.setIfInBounds_toArray, List.set_cons_zero, List.set_cons_succ])))
        (first | (apply Calm.op_move; (focus rfl); (focus (first | exact .inl rfl | exact .inr rfl)); (focus ((try simp only [Act.eval, Array.getD_eq_getD_getElem?, List.getElem?_toArray, List.getElem?_cons_succ, List.getElem?_cons_zero, Option.getD_some]); rfl)); (try simp only [Act.put, List.setIfInBounds_toArray, List.set_cons_zero, List.set_cons_succ])) | (apply Calm.op_not; (focus rfl); (try simp only [Act.put, List.setIfInBounds_toArray, List.set_cons_zero, List.set_cons_succ])) | (apply Calm.op; (focus rfl); (focus (intro W hb; obtain ⟨hc, hf⟩ := bcell hb; clear hb hf; go_simp; (try go_bits); (try rfl); done)); (try simp only [Act.put, List.setIfInBounds_toArray, List.set_cons_zero, List.set_cons_succ])))
        refine wpQuiet_nil ?_
        intro w9 hb9
        obtain ⟨hb9c, hb9f⟩ := bcell hb9
        have hb9z := hb9.size
        (try simp at hb9z)
        (try have hb9z0 : w.heap.size < w9.heap.size := by omega)
        (try have hb9z1 : w.heap.size + 1 < w9.heap.size := by omega)
        (try have hb9z2 : w.heap.size + 1 + 1 < w9.heap.size := by omega)
        (try have hb9z3 : w.heap.size + 1 + 1 + 1 < w9.heap.size := by omega)
        (try have hb9z4 : w.heap.size + 1 + 1 + 1 + 1 < w9.heap.size := by omega)
        (try have hb9z5 : w.heap.size + 1 + 1 + 1 + 1 + 1 < w9.heap.size := by omega)
        have HB9 := Lib.hid (HB2.out.trans (hb9.mono HB2.out.size))
        go_wp2
        go_ret
        exact ⟨_, by rw [HR.out]; first | rfl | (simp [ha, hbx]; done) | (simp [ha]; done), rfl, HB9.out⟩
    · have ha : decide ((i : Int) ≤ lv + 1) = false := decide_eq_false hc1
      go_wp2
      refine Calm.all_below (by kernel_rfl) (by kernel_rfl) ?_
      (first | (apply Calm.op_move; (focus rfl); (focus (first | exact .inl rfl | exact .inr rfl)); (focus ((try simp only [Act.eval, Array.getD_eq_getD_getElem?, List.getElem?_toArray, List.getElem?_cons_succ, List.getElem?_cons_zero, Option.getD_some]); rfl)); (try simp only [Act.put, List.setIfInBounds_toArray, List.set_cons_zero, List.set_cons_succ])) | (apply Calm.op_not; (focus rfl); (try simp only [Act.put, List.setIfInBounds_toArray, List.set_cons_zero, List.set_cons_succ])) | (apply Calm.op; (focus rfl); (focus (intro W hb; obtain ⟨hc, hf⟩ := bcell hb; clear hb hf; go_simp; (try go_bits); (try rfl); done)); (try simp only [Act.put, List.setIfInBounds_toArray, List.set_cons_zero, List.set_cons_succ])))
      (first | (apply Calm.op_move; (focus rfl); (focus (first | exact .inl rfl | exact .inr rfl)); (focus ((try simp only [Act.eval, Array.getD_eq_getD_getElem?, List.getElem?_toArray, List.getElem?_cons_succ, List.getElem?_cons_zero, Option.getD_some]); rfl)); (try simp only [Act.put, List.setIfInBounds_toArray, List.set_cons_zero, List.set_cons_succ])) | (apply Calm.op_not; (focus rfl); (try simp only [Act.put, List.setIfInBounds_toArray, List.set_cons_zero, List.set_cons_succ])) | (apply Calm.op; (focus rfl); (focus (intro W hb; obtain ⟨hc, hf⟩ := bcell hb; clear hb hf; go_simp; (try go_bits); (try rfl); done)); (try simp only [Act.put, List.setIfInBounds_toArray, List.set_cons_zero, List.set_cons_succ])))
      (first | (apply Calm.op_move; (focus rfl); (focus (first | exact .inl rfl | exact .inr rfl)); (focus ((try simp only [Act.eval, Array.getD_eq_getD_getElem?, List.getElem?_toArray, List.getElem?_cons_succ, List.getElem?_cons_zero, Option.getD_some]); rfl)); (try simp only [Act.put, List.setIfInBounds_toArray, List.set_cons_zero, List.set_cons_succ])) | (apply Calm.op_not; (focus rfl); (try simp only [Act.put, List.setIfInBounds_toArray, List.set_cons_zero, List.set_cons_succ])) | (apply Calm.op; (focus rfl); (focus (intro W hb; obtain ⟨hc, hf⟩ := bcell hb; clear hb hf; go_simp; (try go_bits); (try rfl); done)); (try simp only [Act.put, List.setIfInBounds_toArray, List.set_cons_zero, List.set_cons_succ])))
      (first | (apply Calm.op_move; (focus rfl); (focus (first | exact .inl rfl | exact .inr rfl)); (focus ((try simp only [Act.eval, Array.getD_eq_getD_getElem?, List.getElem?_toArray, List.getElem?_cons_succ, List.getElem?_cons_zero, Option.getD_some]); rfl)); (try simp only [Act.put, List.setIfInBounds_toArray, List.set_cons_zero, List.set_cons_succ])) | (apply Calm.op_not; (focus rfl); (try simp only [Act.put, List.setIfInBounds_toArray, List.set_cons_zero, List.set_cons_succ])) | (apply Calm.op; (focus rfl); (focus (intro W hb; obtain ⟨hc, hf⟩ := bcell hb; clear hb hf; go_simp; (try go_bits); (try rfl); done)); (try simp only [Act.put, List.setIfInBounds_toArray, List.set_cons_zero, List.set_cons_succ])))
      (first | (apply Calm.op_move; (focus rfl); (focus (first | exact .inl rfl | exact .inr rfl)); (focus ((try simp only [Act.eval, Array.getD_eq_getD_getElem?, List.getElem?_toArray, List.getElem?_cons_succ, List.getElem?_cons_zero, Option.getD_some]); rfl)); (try simp only [Act.put, List.setIfInBounds_toArray, List.set_cons_zero, List.set_cons_succ])) | (apply Calm.op_not; (focus rfl); (try simp only [Act.put, List.setIfInBounds_toArray, List.set_cons_zero, List.set_cons_succ])) | (apply Calm.op; (focus rfl); (focus (intro W hb; obtain ⟨hc, hf⟩ := bcell hb; clear hb hf; go_simp; (try go_bits); (try rfl); done)); (try simp only [Act.put, List.setIfInBounds_toArray, List.set_cons_zero, List.set_cons_succ])))
      (try simp only [ha])
      (first | (apply Calm.op_move; (focus rfl); (focus (first | exact .inl rfl | exact .inr rfl)); (focus ((try simp only [Act.eval, Array.getD_eq_getD_getElem?, List.getElem?_toArray, List.getElem?_cons_succ, List.getElem?_cons_zero, Option.getD_some]); rfl)); (try simp only [Act.put, List.setIfInBounds_toArray, List.set_cons_zero, List.set_cons_succ])) | (apply Calm.op_not; (focus rfl); (try simp only [Act.put, List.setIfInBounds_toArray, List.set_cons_zero, List.set_cons_succ])) | (apply Calm.op; (focus rfl); (focus (intro W hb; obtain ⟨hc, hf⟩ := bcell hb; clear hb hf; go_simp; (try go_bits); (try rfl); done)); (try simp only [Act.put, List.setIfInBounds_toArray, List.set_cons_zero, List.set_cons_succ])))
      iterate 5 ((with_reducible refine Calm.op_not ?_ ?_); (focus rfl); (try simp only [Act.put, List.setIfInBounds_toArray, List.set_cons_zero, List.set_cons_succ]))
      (first | (apply Calm.op_move; (focus rfl); (focus (first | exact .inl rfl | exact .inr rfl)); (focus ((try simp only [Act.eval, Array.getD_eq_getD_getElem?, List.getElem?_toArray, List.getElem?_cons_succ, List.getElem?_cons_zero, Option.getD_some]); rfl)); (try simp only [Act.put, List.setIfInBounds_toArray, List.set_cons_zero, List.set_cons_succ])) | (apply Calm.op_not; (focus rfl); (try simp only [Act.put, List.setIfInBounds_toArray, List.set_cons_zero, List.set_cons_succ])) | (apply Calm.op; (focus rfl); (focus (intro W hb; obtain ⟨hc, hf⟩ := bcell hb; clear hb hf; go_simp; (try go_bits); (try rfl); done)); (try simp only [Act.put, List.setIfInBounds_toArray, List.set_cons_zero, List.set_cons_succ])))
      (first | (apply Calm.op_move; (focus rfl); (focus (first | exact .inl rfl | exact .inr rfl)); (focus ((try simp only [Act.eval, Array.getD_eq_getD_getElem?, List.getElem?_toArray, List.getElem?_cons_succ, List.getElem?_cons_zero, Option.getD_some]); rfl)); (try simp only [Act.put, List.setIfInBounds_toArray, List.set_cons_zero, List.set_cons_succ])) | (apply Calm.op_not; (focus rfl); (try simp only [Act.put, List.setIfInBounds_toArray, List.set_cons_zero, List.set_cons_succ])) | (apply Calm.op; (focus rfl); (focus (intro W hb; obtain ⟨hc, hf⟩ := bcell hb; clear hb hf; go_simp; (try go_bits); (try rfl); done)); (try simp only [Act.put, List.setIfInBounds_toArray, List.set_cons_zero, List.set_cons_succ])))
      iterate 3 ((with_reducible refine Calm.op_not ?_ ?_); (focus rfl); (try simp only [Act.put, List.setIfInBounds_toArray, List.set_cons_zero, List.set_cons_succ]))
      (first | (apply Calm.op_move; (focus rfl); (focus (first | exact .inl rfl | exact .inr rfl)); (focus ((try simp only [Act.eval, Array.getD_eq_getD_getElem?, List.getElem?_toArray, List.getElem?_cons_succ, List.getElem?_cons_zero, Option.getD_some]); rfl)); (try simp only [Act.put, List.setIfInBounds_toArray, List.set_cons_zero, List.set_cons_succ])) | (apply Calm.op_not; (focus rfl); (try simp only [Act.put, List.setIfInBounds_toArray, List.set_cons_zero, List.set_cons_succ])) | (apply Calm.op; (focus rfl); (focus (intro W hb; obtain ⟨hc, hf⟩ := bcell hb; clear hb hf; go_simp; (try go_bits); (try rfl); done)); (try simp only [Act.put, List.setIfInBounds_toArray, List.set_cons_zero, List.set_cons_succ])))
      (first | (apply Calm.op_move; (focus rfl); (focus (first | exact .inl rfl | exact .inr rfl)); (focus ((try simp only [Act.eval, Array.getD_eq_getD_getElem?, List.getElem?_toArray, List.getElem?_cons_succ, List.getElem?_cons_zero, Option.getD_some]); rfl)); (try simp only [Act.put, List.setIfInBounds_toArray, List.set_cons_zero, List.set_cons_succ])) | (apply Calm.op_not; (focus rfl); (try simp only [Act.put, List.setIfInBounds_toArray, List.set_cons_zero, List.set_cons_succ])) | (apply Calm.op; (focus rfl); (focus (intro W hb; obtain ⟨hc, hf⟩ := bcell hb; clear hb hf; go_simp; (try go_bits); (try rfl); done)); (try simp only [Act.put, List.setIfInBounds_toArray, List.set_cons_zero, List.set_cons_succ])))
      refine wpQuiet_nil ?_
      intro w9 hb9
      obtain ⟨hb9c, hb9f⟩ := bcell hb9
      have hb9z := hb9.size
      (try simp at hb9z)
      (try have hb9z0 : w.heap.size < w9.heap.size := by omega)
      (try have hb9z1 : w.heap.size + 1 < w9.heap.size := by omega)
      (try have hb9z2 : w.heap.size + 1 + 1 < w9.heap.size := by omega)
      (try have hb9z3 : w.heap.size + 1 + 1 + 1 < w9.heap.size := by omega)
      (try have hb9z4 : w.heap.size + 1 + 1 + 1 + 1 < w9.heap.size := by omega)
      (try have hb9z5 : w.heap.size + 1 + 1 + 1 + 1 + 1 < w9.heap.size := by omega)
      have HB9 := Lib.hid (HB2.out.trans (hb9.mono HB2.out.size))
      go_wp2
      go_ret
      exact ⟨_, by rw [HR.out]; first | rfl | (simp [ha, hbx]; done) | (simp [ha]; done), rfl, HB9.out⟩
theorem rPerm_K {lk ht rc h x : Int} {lv : Nat} {ts gs ps : List Int} {M L N i : Nat} {u v : Value} {W : World} (hV : Valid lk ht rc ts gs) (hh : 0 ≤ h ∧ h ≤ 549755813888) (hlv : lv ≤ 1000) (hM : M = ts.length) (hL : L = gs.length) (hN : N = ps.length) (hMN : M = N + 1) (hi : i < L) (hpb : inB 2048 ps) (hx : -2048 ≤ x ∧ x ≤ 2048) (hu : KG lk ht rc M ts L gs u W) (hv : KT h (lv : Int) N ps v W) :
    Calls Tryd.prog 84 #[u, v, (.int .i64 x), (.int .i64 ((i : Int)))] W (KP (KV (.bool (permB lk ht rc ts gs ⟨h, lv, ps⟩ x i))) W) := by
  obtain ⟨A1, c1, A2, c2, rfl, hT, hG⟩ := hu
  obtain ⟨A3, c3, rfl, hP⟩ := hv
  have e : permB lk ht rc ts gs ⟨h, lv, ps⟩ x i = (decide ((i : Int) ≤ (lv : Int) + 1) && decide (absI (exF ts ps (byF x (gs.getD i 0))) ≤ rc) && safeB ht rc (coolF lk h + byF x (gs.getD i 0) * byF x (gs.getD i 0)) ts (pushL ps (byF x (gs.getD i 0)))) := by
    unfold permB okAt fineF safeB
    have e1 : decide (i ≤ lv + 1) = decide ((i : Int) ≤ (lv : Int) + 1) := by rw [decide_eq_decide]; omega
    have e2 : (!decide (rc < absI (exF ts ps (byF x (gs.getD i 0))))) = decide (absI (exF ts ps (byF x (gs.getD i 0))) ≤ rc) := by rw [← decide_not, decide_eq_decide]; omega
    simp only [e1, e2]
    cases decide ((i : Int) ≤ (lv : Int) + 1) <;> cases decide (absI (exF ts ps (byF x (gs.getD i 0))) ≤ rc) <;> simp
  rw [e]
  exact rPerm_walk hV hh ⟨by omega, by omega⟩ hM hL hN hMN hi hpb hx hT hG hP
end Go.Proofs.YtdeapbihbhoefaaDoor
