/- Part 28 of the texts of the claim: FigAll, FigRow. -/
import Derived.Test.YtpkldjlljoledaaDoorFx22
import Derived.Test.YtpkldjlljoledaaDoorFx23
import Derived.Test.YtpkldjlljoledaaDoorFx24
import Derived.Test.YtpkldjlljoledaaDoorFx25
import Derived.Test.YtpkldjlljoledaaDoorFx26
import Derived.Test.YtpkldjlljoledaaDoorFx27
import Derived.Test.YtpkldjlljoledaaDoorFx3

/- DriverFigures answers yes, whatever its arguments. -/
namespace Go.Proofs.YtpkldjlljoledaaDoor
open Go.RowKit
open Calm (bcell Blk)
theorem DriverFigures_any (d1 d2 d3 d4 d5 d6 x f1 f2 l1 l2 ad : Int) (w : World) (hL : Lim w) :
    Calls Tryd.prog 5 #[.agg #[(.int .i64 (d1)), (.int .i64 (d2)), (.int .i64 (d3)), (.int .i64 (d4)), (.int .i64 (d5)), (.int .i64 (d6))], .agg #[(.int .i64 (x)), (.int .i64 (f1)), (.int .i64 (f2)), (.int .i64 (l1)), (.int .i64 (l2)), (.int .i64 (ad))]] w fun r w' => r = .returned (.bool true) ∧ Below w.heap.size w w' := by
  have HRx : ∀ W : World, Calls Tryd.prog 40 #[(.int .i64 (x)), (.int .i64 (0)), (.int .i64 (5000))] W fun r w' => r = .returned (.int .i64 (rangeErr x 0 5000)) ∧ W = w' := fun W => checkRange_any x 0 5000 W
  have hF3 : ∀ W : World, Calls Tryd.prog 16 #[.slice (some ⟨W.heap.size, 0, none⟩) 3 3] (W.alloc (.cells #[(.int .i64 (termErr f1 f2)), (.int .i64 (termErr l1 l2)), (.int .i64 (rangeErr ad 1 100))] 3)) fun r w' => r = .returned (.int .i64 (weighErr f1 f2 l1 l2 ad)) ∧ W.alloc (.cells #[(.int .i64 (termErr f1 f2)), (.int .i64 (termErr l1 l2)), (.int .i64 (rangeErr ad 1 100))] 3) = w' := fun W => qFirst3_any _ _ _ W
  by_cases hb : drvErr d1 d2 d3 d4 d5 d6 = 0
  · have HBad : ∀ W : World, Calls Tryd.prog 17 #[.agg #[(.int .i64 (d1)), (.int .i64 (d2)), (.int .i64 (d3)), (.int .i64 (d4)), (.int .i64 (d5)), (.int .i64 (d6))]] W fun r w' => r = .returned (.int .i64 (0)) ∧ Below W.heap.size W w' := fun W => by
      have := refCheckDriver_any d1 d2 d3 d4 d5 d6 W
      rwa [hb] at this
    have HRes := fun (W : World) (h : Lim W) => resonance_ok d1 d2 d3 d4 d5 d6 W h hb
    have HQua := fun (W : World) (h : Lim W) => quality_ok d1 d2 d3 d4 d5 d6 W h hb
    have HRR := fun (W : World) => refResonance_any d1 d2 d3 d4 d5 d6 W hb
    have HRQ := fun (W : World) => refQuality_any d1 d2 d3 d4 d5 d6 W hb
    have HF1 : ∀ (one : Int), firstOf [0, rangeErr x 0 5000] = one → ∀ W : World, Calls Tryd.prog 16 #[.slice (some ⟨W.heap.size, 0, none⟩) 2 2] (W.alloc (.cells #[(.int .i64 (0)), (.int .i64 (rangeErr x 0 5000))] 3)) fun r w' => r = .returned (.int .i64 (one)) ∧ W.alloc (.cells #[(.int .i64 (0)), (.int .i64 (rangeErr x 0 5000))] 3) = w' := fun one h W => h ▸ qFirst2_any 0 (rangeErr x 0 5000) W
    have hce : closedErr d1 d2 d3 d4 d5 d6 x = firstOf [0, rangeErr x 0 5000] := by unfold closedErr; rw [hb]
    by_cases ho : firstOf [0, rangeErr x 0 5000] = 0
    · obtain ⟨c1, c2, c3, c4, c5, c6, e1, hc1, hc2⟩ := closed_same d1 d2 d3 d4 d5 d6 x (hce.trans ho)
      by_cases hf : weighErr f1 f2 l1 l2 ad = 0
      · obtain ⟨m1, m2, s1, s2, e4, he, hw1, hw2⟩ := weighed_same f1 f2 l1 l2 ad hf
        exact fig_000 d1 d2 d3 d4 d5 d6 x f1 f2 l1 l2 ad _ c1 c2 c3 c4 c5 c6 e1 _ _ _ _ _ _ _ _ m1 m2 s1 s2 e4 w hL (Lib.hid hc1) (Lib.hid HRes) (Lib.hid HQua) (Lib.hid hw1) (Lib.hid HBad) (Lib.hid HRx) (Lib.hid (HF1 0 ho)) (Lib.hid (hf ▸ hF3))
          (Lib.hid hc2) (Lib.hid HRR) (Lib.hid HRQ) (Lib.hid hw2) (Lib.hid (ratio_ok _ _)) (Lib.hid (ratio_same m1 m2 e4 (he.imp id And.left))) (Lib.hid (ratio_same s1 s2 e4 (he.imp id And.right)))
      · exact fig_001 d1 d2 d3 d4 d5 d6 x f1 f2 l1 l2 ad _ c1 c2 c3 c4 c5 c6 e1 _ _ _ _ _ _ _ _ _ w hL (Lib.hid hc1) (Lib.hid HRes) (Lib.hid HQua) (Lib.hid fun W => weighed_bad f1 f2 l1 l2 ad W hf) (Lib.hid HBad) (Lib.hid HRx) (Lib.hid (HF1 0 ho)) (Lib.hid hF3)
          (Lib.hid hc2) (Lib.hid HRR) (Lib.hid HRQ) (Lib.hid (ratio_ok _ _)) (Lib.hid fun W => ratio_bad _ W hf) (Lib.hid fun W => ratio_bad _ W hf) hf
    · have HClo : ∀ W : World, Lim W → Calls Tryd.prog 36 #[.agg #[(.int .i64 (d1)), (.int .i64 (d2)), (.int .i64 (d3)), (.int .i64 (d4)), (.int .i64 (d5)), (.int .i64 (d6))], (.int .i64 (x))] W fun r w' => r = .returned (.tuple #[.agg #[(.int .i64 (0)), (.int .i64 (0)), (.int .i64 (0)), (.int .i64 (0)), (.int .i64 (0)), (.int .i64 (0))], (.int .i64 (firstOf [0, rangeErr x 0 5000]))]) ∧ Below W.heap.size W w' := fun W h => by
        have := closed_bad d1 d2 d3 d4 d5 d6 x W h (by rw [hce]; exact ho)
        rwa [hce] at this
      by_cases hf : weighErr f1 f2 l1 l2 ad = 0
      · obtain ⟨m1, m2, s1, s2, e4, he, hw1, hw2⟩ := weighed_same f1 f2 l1 l2 ad hf
        exact fig_100 d1 d2 d3 d4 d5 d6 x f1 f2 l1 l2 ad _ _ _ _ _ _ _ _ _ _ m1 m2 s1 s2 e4 w hL (Lib.hid HClo) (Lib.hid HRes) (Lib.hid HQua) (Lib.hid hw1) (Lib.hid HBad) (Lib.hid HRx) (Lib.hid (HF1 _ rfl)) (Lib.hid (hf ▸ hF3))
          (Lib.hid HRR) (Lib.hid HRQ) (Lib.hid hw2) (Lib.hid (ratio_ok _ _)) (Lib.hid (ratio_same m1 m2 e4 (he.imp id And.left))) (Lib.hid (ratio_same s1 s2 e4 (he.imp id And.right))) ho
      · exact fig_101 d1 d2 d3 d4 d5 d6 x f1 f2 l1 l2 ad _ _ _ _ _ _ _ _ _ _ _ w hL (Lib.hid HClo) (Lib.hid HRes) (Lib.hid HQua) (Lib.hid fun W => weighed_bad f1 f2 l1 l2 ad W hf) (Lib.hid HBad) (Lib.hid HRx) (Lib.hid (HF1 _ rfl)) (Lib.hid hF3)
          (Lib.hid HRR) (Lib.hid HRQ) (Lib.hid (ratio_ok _ _)) (Lib.hid fun W => ratio_bad _ W hf) (Lib.hid fun W => ratio_bad _ W hf) ho hf
  · have hce : closedErr d1 d2 d3 d4 d5 d6 x ≠ 0 := by
      intro h
      exact hb (firstOf_eq_zero.1 h (drvErr d1 d2 d3 d4 d5 d6) (by simp))
    have HClo := fun (W : World) (h : Lim W) => closed_bad d1 d2 d3 d4 d5 d6 x W h hce
    have HRes := fun (W : World) (h : Lim W) => resonance_bad d1 d2 d3 d4 d5 d6 W h hb
    have HQua := fun (W : World) (h : Lim W) => quality_bad d1 d2 d3 d4 d5 d6 W h hb
    have HBad := fun (W : World) => refCheckDriver_any d1 d2 d3 d4 d5 d6 W
    have HF1 : ∀ W : World, Calls Tryd.prog 16 #[.slice (some ⟨W.heap.size, 0, none⟩) 2 2] (W.alloc (.cells #[(.int .i64 (drvErr d1 d2 d3 d4 d5 d6)), (.int .i64 (rangeErr x 0 5000))] 3)) fun r w' => r = .returned (.int .i64 (closedErr d1 d2 d3 d4 d5 d6 x)) ∧ W.alloc (.cells #[(.int .i64 (drvErr d1 d2 d3 d4 d5 d6)), (.int .i64 (rangeErr x 0 5000))] 3) = w' := fun W => qFirst2_any _ _ W
    by_cases hf : weighErr f1 f2 l1 l2 ad = 0
    · obtain ⟨m1, m2, s1, s2, e4, he, hw1, hw2⟩ := weighed_same f1 f2 l1 l2 ad hf
      exact fig_110 d1 d2 d3 d4 d5 d6 x f1 f2 l1 l2 ad _ _ _ m1 m2 s1 s2 e4 w hL (Lib.hid HClo) (Lib.hid HRes) (Lib.hid HQua) (Lib.hid hw1) (Lib.hid HBad) (Lib.hid HRx) (Lib.hid HF1) (Lib.hid (hf ▸ hF3))
        (Lib.hid hw2) (Lib.hid fun W => ratio_bad _ W hb) (Lib.hid (ratio_same m1 m2 e4 (he.imp id And.left))) (Lib.hid (ratio_same s1 s2 e4 (he.imp id And.right))) hce hb
    · exact fig_111 d1 d2 d3 d4 d5 d6 x f1 f2 l1 l2 ad _ _ _ _ w hL (Lib.hid HClo) (Lib.hid HRes) (Lib.hid HQua) (Lib.hid fun W => weighed_bad f1 f2 l1 l2 ad W hf) (Lib.hid HBad) (Lib.hid HRx) (Lib.hid HF1) (Lib.hid hF3)
        (Lib.hid fun W => ratio_bad _ W hb) (Lib.hid fun W => ratio_bad _ W hf) (Lib.hid fun W => ratio_bad _ W hf) hce hb hf
end Go.Proofs.YtpkldjlljoledaaDoor

/- DriverFigures: the row and its card. -/
namespace Go.Proofs.YtpkldjlljoledaaDoor.driverFigures
open Go.ChangeShapes Go.WideShapes Go.ChangeAt Go.RowKit Go.Flat
open Calm (bcell)

set_option maxRecDepth 100000 in
theorem contract (H : Type) (enc : TypeId × Value → H) (W : World) (base : Nat) (args : Array Value) (ds gs : List (DataW H)) (before : List MemPlace)
    (hval : ∀ (j : Nat) t v, Tryd.f5.params[j]? = some t → args[j]? = some v → Value.okWide Tryd.prog W .any base t v)
    (hW : DataW.Whole enc Tryd.prog Tryd.f5.params.toList Rows.driverFiguresSpec.vars false W args.toList ds gs before) (hL : laidMetH Tryd.prog laidList W) :
    Calls Tryd.prog 5 args W fun e W' => ∃ v, e = .returned v ∧ Rows.driverFiguresSpec.post enc Tryd.prog Tryd.f5 false true false false W args v W' := by
  have hW' := hW
  obtain ⟨p, q, hA0, hV, rfl, hfz, hnd⟩ := hW
  have hA : DataW.TrodAll enc Tryd.prog W 0 (fun _ => true) true Tryd.f5.params.toList args.toList ds p := hA0
  rw [Tryd.params5] at hA hval
  obtain ⟨v0, v1, d0, d1, p0, p1, rfl, rfl, rfl, h0, h1⟩ := trodAll_two hA
  obtain ⟨rfl, rfl⟩ := trodVars_none hV
  obtain ⟨zs, hz, rfl, rfl⟩ := open_ints 3 Tryd.underlying23 (by kernel_rfl) (hval 0 _ _ rfl rfl) h0
  obtain ⟨ys, hy, rfl, rfl⟩ := open_ints 3 Tryd.underlying66 (by kernel_rfl) (hval 1 _ _ rfl rfl) h1
  rw [show Tryd.prog.cellsOf 23 = 6 by kernel_rfl] at hz
  rw [show Tryd.prog.cellsOf 66 = 6 by kernel_rfl] at hy
  match zs, hz with
  | [a1, a2, a3, a4, a5, a6], _ =>
  match ys, hy with
  | [b1, b2, b3, b4, b5, b6], _ =>
  refine (DriverFigures_any a1 a2 a3 a4 a5 a6 b1 b2 b3 b4 b5 b6 W (lim_of_laid hL)).mono fun e W' ⟨he, hb⟩ => ?_
  subst he
  refine ⟨_, rfl, post_of_below (pa := [] ++ []) (pv := []) hW' (fun _ _ _ => trodAll_cons_mk (shut_bool Tryd.underlying4 _) trodAll_mk0) (fun sp hs => ?_) (fun _ _ => rfl) rfl hb (ok_one (by kernel_rfl) rfl (okWide_bool_mk Tryd.underlying4 _))⟩
  exact trodAll_below laidOut hb (by rw [Tryd.params5]; exact of_decide_eq_true (by kernel_rfl)) hA0 (fun x hx => absurd hx (by simp)) (fun x hx => absurd hx (by simp))

/-- the witness: nothing but zeros. -/
noncomputable def wit : Array Value := #[.agg #[(.int .i64 (0)), (.int .i64 (0)), (.int .i64 (0)), (.int .i64 (0)), (.int .i64 (0)), (.int .i64 (0))], .agg #[(.int .i64 (0)), (.int .i64 (0)), (.int .i64 (0)), (.int .i64 (0)), (.int .i64 (0)), (.int .i64 (0))]]
theorem reads (os : Os) {H : Type} (enc : TypeId × Value → H) : ∃ ds places, DataW.whole enc Tryd.prog ((World.doorLaid Tryd.prog 35 os).forCall (fun _ _ => 0) ⟨#[], wit, []⟩).memory Tryd.f5.params.toList Rows.driverFiguresSpec.vars false wit.toList 8 = some (ds, [], places) :=
  ⟨[.agg (List.replicate 6 (.lit (.int .i64 0))), .agg [.lit (.int .i64 0), .agg (List.replicate 2 (.lit (.int .i64 0))), .agg (List.replicate 2 (.lit (.int .i64 0))), .lit (.int .i64 0)]], [], by kernel_rfl⟩

set_option maxRecDepth 100000 in
theorem lifted (os : Os) (started : os.Started) (H : Type) (enc : TypeId × Value → H) (F : Stop.Interp) :
    ReturnsInHanded {} Tryd.checked os 5 .any ((OpenSpec.ofChange Rows.driverFiguresSpec).preRow enc Tryd.prog Tryd.f5 Rows.driverFiguresRow.domain false Rows.driverFiguresRow.laid) (((OpenSpec.ofChange Rows.driverFiguresSpec).at F).post enc Tryd.prog Tryd.f5 false true false false) := by
  obtain ⟨ds, places, hx⟩ := reads os enc
  refine returnsInHanded_of_row (C := Tryd.checked) (s := OpenSpec.ofChange Rows.driverFiguresSpec) own started (by kernel_rfl) Tryd.func5
    (witness_row_at (enc := enc) (C := Tryd.checked) false (World.doorLaid Tryd.prog 35 os) wit rfl (door_vars os _) (door_rest os _) (by kernel_rfl)
      (OpenSpec.preRow_of_cond 8 hx (by kernel_rfl) (fun k hk => by cases hk) (by kernel_rfl) (laid_met os _))) ?_
  intro W base args ds gs before hval hW _ _ _ hL _ _
  exact contract H enc W base args ds gs before hval hW hL

theorem said : Rows.DriverFiguresSaid :=
  OpenClaim.holds_of_cond 5 Tryd.f5 rfl rfl rfl rfl rfl rfl rfl ⟨rfl, rfl, rfl, rfl, rfl⟩ rfl rfl rfl rfl rfl (by kernel_rfl) Tryd.func5 (by kernel_rfl)
    (of_decide_eq_true (by kernel_rfl)) (by unfold Func.isWrapper; first | (rw [if_pos (by decide +kernel)]; kernel_rfl) | (rw [if_neg (by decide +kernel)]; exact ⟨rfl, rfl⟩))
    (fun os started H enc _ F => by rw [OpenClaim.pre_eq_preRow]; exact lifted os started H enc F)

theorem plain (f : FuncId) (fn : Func) (hf : Tryd.pinned.checked.prog.funcNamed "woofer/wooferlaw03.DriverFigures" = some f) (hfn : Tryd.pinned.checked.prog.funcs[f]? = some fn) :
    false = Tryd.pinned.checked.prog.looks [] ∧ ∀ (j : Nat) t, fn.params[j]? = some t → Tryd.pinned.checked.prog.wantsStandIn t = false := by
  obtain rfl : f = 5 := Option.some.inj ((show Tryd.prog.funcNamed "woofer/wooferlaw03.DriverFigures" = some 5 by kernel_rfl).symm.trans hf) |>.symm
  obtain rfl : fn = Tryd.f5 := (Option.some.inj (Tryd.func5.symm.trans hfn)).symm
  refine ⟨by kernel_rfl, fun j t ht => ?_⟩
  rw [Tryd.params5] at ht
  have hall : ∀ t ∈ (#[23, 66] : Array TypeId), Tryd.prog.wantsStandIn t = false := of_decide_eq_true (by kernel_rfl)
  exact hall t (Array.mem_of_getElem? ht)

theorem card : Rows.DriverFiguresCardSaid :=
  Claim7.holds_tied_plain_at .later [] _ _ _ _ said (fun _ h => by cases h) (by kernel_rfl) (fun _ h => by cases h) driverFigures_row_tie rfl ⟨rfl, rfl⟩ (by kernel_rfl) rfl plain (by kernel_rfl)
end Go.Proofs.YtpkldjlljoledaaDoor.driverFigures
