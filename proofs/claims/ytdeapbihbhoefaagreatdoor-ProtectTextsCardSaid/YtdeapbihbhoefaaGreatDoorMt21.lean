/- Part 21 of the texts of the claim: Lh, N1, N2, RQ2, N3, N4, N5, N6, N7, N8, N9, LStP, RQ3, RQ4, RQ5, RQ6, RQ7, RQ8, RQ9, RQ10, Ap1. -/
import Derived.Test.YtdeapbihbhoefaaGreatDoorMt20
import Derived.Test.YtdeapbihbhoefaaGreatDoorMt15
import Derived.Test.YtdeapbihbhoefaaGreatDoorMt19
import Derived.Test.YtdeapbihbhoefaaGreatDoorMt18
import Derived.Test.YtdeapbihbhoefaaGreatDoorMt17
import Derived.Test.YtdeapbihbhoefaaGreatDoorMt13
import Derived.Lib.ItoaMem
import Derived.Laws.AppendOwn

/- Helpers of the laws: copies of numbers, guards, states. -/
namespace Go.Proofs.YtdeapbihbhoefaaGreatDoor
open Go.RowKit
open Calm (bcell Blk)

theorem own_ksi {W : World} {base n : Nat} {v : Value} {xs : List Int} (hn : n = xs.length) (h : W.ownsRow base 3 1 v n (xs.map (Value.int .i64))) : KSI n xs v W := by
  obtain ⟨A, c, rfl, _, hC⟩ := own_ints h hn
  refine ⟨A, c, rfl, hC, fun p hp => ?_⟩
  subst hp
  rcases h.2 with ⟨e, _⟩ | ⟨g, cap, cur, e, _, hg, _⟩
  · cases e
  · cases e
    exact ⟨cur, hg⟩
set_option maxHeartbeats 1000000 in
theorem ints_K {n : Nat} {xs : List Int} {u : Value} {W : World} (hn : n = xs.length) (h5 : n ≤ 100000) (hu : KS n xs u W) : Calls Tryz.prog 39 #[u] W (KP (KSI n xs) W) := by
  obtain ⟨A, c, rfl, hC⟩ := hu
  have HC := Lib.hid hC
  have HN := Lib.hid hn
  clear hC hn
  go_enter Tryz.func39, Tryz.ntmps39
  go_wp2_with (at_builtin; refine wpList_appC rfl _ _ rfl W.heap.size n c A xs HN.out rfl rfl ⟨by simp, .inr ⟨_, 0, #[], rfl, Nat.le_refl _, by show (W.heap.push _)[W.heap.size]? = _; simp, Nat.le_refl _, Nat.zero_le _, by simp, by simp⟩⟩ h5 (HC.out.below ((Below.refl _ _).alloc (Nat.le_refl _) _)) ?_; intro B d w1 hb1 hown; have HB1 := Lib.hid (((Below.refl W.heap.size W).alloc (Nat.le_refl _) (.cells #[] 3)).trans (hb1.mono (by simp))); have HK := Lib.hid (own_ksi HN.out hown); clear hb1 hown)
  go_ret
  exact ⟨_, rfl, HK.out, HB1.out⟩
theorem Short_K {lk ht rc : Int} {M L : Nat} {ts gs : List Int} {u : Value} {W : World} (hu : KG lk ht rc M ts L gs u W) : Calls Tryz.prog 5 #[u] W (KP (KV (.bool (decide (M ≤ 9 ∧ L ≤ 9)))) W) := by
  obtain ⟨A1, c1, A2, c2, rfl, _, _⟩ := hu
  exact (pShort_any lk ht rc A1 A2 M L c1 c2 W).mono fun e W' ⟨h, hb⟩ => ⟨_, h, rfl, hb⟩
theorem kgo (u : Value) (W : World) {lk ht rc : Int} {M : Nat} {ts : List Int} {L : Nat} {gs : List Int} (h : KG lk ht rc M ts L gs u W) : ∃ A1 c1 A2 c2, u = .agg #[(.int .i64 lk), (.int .i64 ht), .slice A1 M c1, (.int .i64 rc), .slice A2 L c2] ∧ KS M ts (.slice A1 M c1) W ∧ KS L gs (.slice A2 L c2) W := by
  obtain ⟨A1, c1, A2, c2, e, h1, h2⟩ := h
  exact ⟨A1, c1, A2, c2, e, ⟨_, _, rfl, h1⟩, ⟨_, _, rfl, h2⟩⟩

set_option maxRecDepth 100000 in
set_option maxHeartbeats 2000000 in
theorem guard_K {lk ht rc : Int} {M L : Nat} {ts gs : List Int} {u : Value} {w : World} (hM : M = ts.length) (hL : L = gs.length) (h1 : M ≤ 1000) (h2 : L ≤ 1000) (hu : KG lk ht rc M ts L gs u w) : Calls Tryz.prog 8 #[u] w (KP (KGI lk ht rc M ts L gs) w) := by
  obtain ⟨A1, c1, A2, c2, rfl, hT, hG⟩ := kgo _ _ hu
  have HT := Lib.hid hT
  have HG := Lib.hid hG
  have HM := Lib.hid hM
  have HL := Lib.hid hL
  clear hT hG hM hL hu
  go_enter Tryz.func8, Tryz.ntmps8
  have HB0 := Lib.hid (Below.refl w.heap.size w)
  go_wp2
  refine name_world ?_
  intro w1 e1
  have h1 : Below w.heap.size w w1 := by rw [e1]; (repeat (first | (with_reducible exact Below.refl _ _) | ((with_reducible refine Below.setCell ?_ ?_ _); rotate_left 1; (focus (first | (simp; done) | (simp; omega) | (simp at *; omega)))) | ((with_reducible refine Below.alloc ?_ ?_ _); rotate_left 1; (focus (first | (simp; done) | (simp; omega) | (simp at *; omega))))))
  have fHT_1 := Lib.hid (KS.st _ _ _ _ _ HT.out h1)
  have fHG_1 := Lib.hid (KS.st _ _ _ _ _ HG.out h1)
  have HB1 := Lib.hid (HB0.out.trans (h1.mono HB0.out.size))
  have bg_1 := Lib.hid (show Blk w1 w.heap.size #[(.int .i64 lk), (.int .i64 ht), .slice A1 M c1, (.int .i64 rc), .slice A2 L c2] from by rw [e1]; (repeat (first | ((with_reducible refine Blk.at_ ?_); focus (first | rfl | (simp; done) | (simp; omega))) | (with_reducible refine Blk.alloc ?_ _) | (with_reducible refine Blk.below ?_ (by with_reducible assumption)) | (with_reducible refine Blk.drew ?_))))
  have bz_1 := Lib.hid (show Blk w1 (w.heap.size + 1) #[(.int .i64 0), (.int .i64 0), .slice none 0 0, (.int .i64 0), .slice none 0 0] from by rw [e1]; (repeat (first | ((with_reducible refine Blk.at_ ?_); focus (first | rfl | (simp; done) | (simp; omega))) | (with_reducible refine Blk.alloc ?_ _) | (with_reducible refine Blk.below ?_ (by with_reducible assumption)) | (with_reducible refine Blk.drew ?_))))
  have ty_1 := Lib.hid (show IsTy w1 (w.heap.size + 1) 30 from by rw [e1]; exact ⟨_, heap_new (by simp)⟩)
  clear e1 h1
  obtain ⟨f0, f1, f2, f3, f4, fl, -⟩ := bg_1.out.o5
  refine Rel.region3 12 (by kernel_rfl) (by kernel_rfl) (by kernel_rfl) ?_
  simp only [List.take_succ_cons, List.take_zero, List.drop_succ_cons, List.drop_zero, List.filterMap_cons, List.filterMap_nil]
  iterate 6 (apply Rel.op3; (focus (first | exact Rel.gno rfl | exact Rel.gyes _ true _ rfl rfl rfl | exact Rel.gyes _ false _ rfl rfl rfl)); (focus (intro a W hb hd hbase; obtain ⟨hc, hf⟩ := bcell hb; clear hb hf; simp [Rel.deps, Rel.dep1, Rel.ons, Region.binds, Act.eval, KV] at hd; simp only [Act.eval, List.mem_cons, List.not_mem_nil, not_or, and_imp, or_false, Array.getD_eq_getD_getElem?] at hbase; go_simp; (try go_bits); (try rfl); done)); (try simp only [List.nil_append, List.cons_append]))
  refine Rel.callK 39 (KSI M ts) ((KSI.ik _ _).st) (Rel.gno rfl) ?_ ?_
  · intro a W hb hd hbase
    have q1 : a.eval (.tmp 8) = _ := (Rel.dep_at hd 5 rfl rfl)
    refine ⟨#[a.eval (.tmp 8)], ?_, by rw [q1]; exact ints_K HM.out (by omega) (KS.st _ _ _ _ _ fHT_1.out hb)⟩
    clear hd hbase hb
    go_simp
    (first | done | rfl | (refine ⟨?_, ?_⟩ <;> rfl))
  (try simp only [List.nil_append, List.cons_append])
  iterate 4 (apply Rel.op3; (focus (first | exact Rel.gno rfl | exact Rel.gyes _ true _ rfl rfl rfl | exact Rel.gyes _ false _ rfl rfl rfl)); (focus (intro a W hb hd hbase; obtain ⟨hc, hf⟩ := bcell hb; clear hb hf; simp [Rel.deps, Rel.dep1, Rel.ons, Region.binds, Act.eval, KV] at hd; simp only [Act.eval, List.mem_cons, List.not_mem_nil, not_or, and_imp, or_false, Array.getD_eq_getD_getElem?] at hbase; go_simp; (try go_bits); (try rfl); done)); (try simp only [List.nil_append, List.cons_append]))
  refine Rel.callK 39 (KSI L gs) ((KSI.ik _ _).st) (Rel.gno rfl) ?_ ?_
  · intro a W hb hd hbase
    have q1 : a.eval (.tmp 13) = _ := (Rel.dep_at hd 10 rfl rfl)
    refine ⟨#[a.eval (.tmp 13)], ?_, by rw [q1]; exact ints_K HL.out (by omega) (KS.st _ _ _ _ _ fHG_1.out hb)⟩
    clear hd hbase hb
    go_simp
    (first | done | rfl | (refine ⟨?_, ?_⟩ <;> rfl))
  (try simp only [List.nil_append, List.cons_append])
  refine Rel.done3 ?_
  intro x w2 h2 hx
  simp only [Rel.facts, Nat.zero_add, Nat.reduceAdd] at hx
  obtain ⟨e0, e1, e2, e3, e4, e5, ⟨B0, d0, e6, hc0, hi0⟩, e7, e8, e9, e10, ⟨B1, d1, e11, hc1, hi1⟩, _⟩ := hx
  simp only [Rel.fill, Nat.zero_add, Nat.reduceAdd, e0, e1, e2, e3, e4, e5, e6, e7, e8, e9, e10, e11]
  simp only [Act.put, List.setIfInBounds_toArray, List.set_cons_zero, List.set_cons_succ]
  clear e0 e1 e2 e3 e4 e5 e6 e7 e8 e9 e10 e11
  have fHT_2 := Lib.hid (KS.st _ _ _ _ _ fHT_1.out h2)
  have fHG_2 := Lib.hid (KS.st _ _ _ _ _ fHG_1.out h2)
  have bg_2 := Lib.hid (bg_1.out.below h2)
  have bz_2 := Lib.hid (bz_1.out.below h2)
  have ty_2 := Lib.hid (ty_1.out.below h2)
  have HB2 := Lib.hid (HB1.out.trans (h2.mono HB1.out.size))
  have r0 := Lib.hid (show KSI M ts (.slice B0 M d0) w2 from ⟨_, _, rfl, hc0, hi0⟩)
  clear hc0 hi0
  have r1 := Lib.hid (show KSI L gs (.slice B1 L d1) w2 from ⟨_, _, rfl, hc1, hi1⟩)
  clear hc1 hi1
  clear h2 f0 f1 f2 f3 f4 fl
  obtain ⟨z0, z1, z2, z3, z4, zl, zf⟩ := bz_2.out.o5
  go_wp2
  clear z0 z1 z2 z3 z4 zl zf
  have KR := (((((bz_2.out.set (i := 0) (by simp) ((.int .i64 lk))).set (i := 1) (by simp) ((.int .i64 ht))).set (i := 2) (by simp) (.slice B0 M d0)).set (i := 3) (by simp) ((.int .i64 rc))).set (i := 4) (by simp) (.slice B1 L d1))
  obtain ⟨k0, k1, k2, k3, k4, -, -⟩ := KR.o5
  obtain ⟨_, _, ee0, x0, y0⟩ := (((((r0.out.put ty_2.out (by decide) 0 ((.int .i64 lk))).put (ty_2.out.put 0 ((.int .i64 lk))) (by decide) 1 ((.int .i64 ht))).put ((ty_2.out.put 0 ((.int .i64 lk))).put 1 ((.int .i64 ht))) (by decide) 2 (.slice B0 M d0)).put (((ty_2.out.put 0 ((.int .i64 lk))).put 1 ((.int .i64 ht))).put 2 (.slice B0 M d0)) (by decide) 3 ((.int .i64 rc))).put ((((ty_2.out.put 0 ((.int .i64 lk))).put 1 ((.int .i64 ht))).put 2 (.slice B0 M d0)).put 3 ((.int .i64 rc))) (by decide) 4 (.slice B1 L d1))
  cases ee0
  obtain ⟨_, _, ee1, x1, y1⟩ := (((((r1.out.put ty_2.out (by decide) 0 ((.int .i64 lk))).put (ty_2.out.put 0 ((.int .i64 lk))) (by decide) 1 ((.int .i64 ht))).put ((ty_2.out.put 0 ((.int .i64 lk))).put 1 ((.int .i64 ht))) (by decide) 2 (.slice B0 M d0)).put (((ty_2.out.put 0 ((.int .i64 lk))).put 1 ((.int .i64 ht))).put 2 (.slice B0 M d0)) (by decide) 3 ((.int .i64 rc))).put ((((ty_2.out.put 0 ((.int .i64 lk))).put 1 ((.int .i64 ht))).put 2 (.slice B0 M d0)).put 3 ((.int .i64 rc))) (by decide) 4 (.slice B1 L d1))
  cases ee1
  refine bodyPost_ret (v := .agg #[(.int .i64 lk), (.int .i64 ht), .slice B0 M d0, (.int .i64 rc), .slice B1 L d1]) ?_ rfl ⟨_, rfl, ⟨B0, d0, B1, d1, rfl, x0, x1, y0, y1⟩, (((((HB2.out.setCell (p := ⟨w.heap.size + 1, 0, none⟩) (by simp) ((.int .i64 lk))).setCell (p := ⟨w.heap.size + 1, 1, none⟩) (by simp) ((.int .i64 ht))).setCell (p := ⟨w.heap.size + 1, 2, none⟩) (by simp) (.slice B0 M d0)).setCell (p := ⟨w.heap.size + 1, 3, none⟩) (by simp) ((.int .i64 rc))).setCell (p := ⟨w.heap.size + 1, 4, none⟩) (by simp) (.slice B1 L d1))⟩
  simp [results, Tryz.results8, go_sem, k0, k1, k2, k3, k4]
end Go.Proofs.YtdeapbihbhoefaaGreatDoor

/- The reference's small functions: power, cooled, abs, By, CheckHeat. -/
namespace Go.Proofs.YtdeapbihbhoefaaGreatDoor
open Go.RowKit
open Calm (bcell Blk)

end Go.Proofs.YtdeapbihbhoefaaGreatDoor

/- The reference's Begin, CheckState, SameState. -/
namespace Go.Proofs.YtdeapbihbhoefaaGreatDoor
open Go.RowKit
open Calm (bcell Blk)

end Go.Proofs.YtdeapbihbhoefaaGreatDoor

/- The law's own and the reference's SameGuard; the program's functions as the laws over texts want them. -/
namespace Go.Proofs.YtdeapbihbhoefaaGreatDoor
open Go.RowKit
open Calm (bcell Blk)
set_option maxHeartbeats 1000000 in
set_option maxRecDepth 100000 in
theorem own_K {lk ht rc : Int} {M L : Nat} {ts gs : List Int} {u : Value} {W : World} (hu : KG lk ht rc M ts L gs u W) : Calls Tryz.prog 14 #[u] W (KP (KG lk ht rc M ts L gs) W) := by
  obtain ⟨A1, c1, A2, c2, rfl, hT, hG⟩ := hu
  have HT := Lib.hid hT
  have HG := Lib.hid hG
  clear hT hG
  go_enter Tryz.func14, Tryz.ntmps14
  go_wp2
  refine bodyPost_ret (v := .agg #[(.int .i64 lk), (.int .i64 ht), .slice A1 M c1, (.int .i64 rc), .slice A2 L c2]) (by simp [results, Tryz.results14, go_sem]) rfl ⟨_, rfl, ⟨_, _, _, _, rfl, HT.out.below bel, HG.out.below bel⟩, bel⟩
set_option maxHeartbeats 2000000 in
set_option maxRecDepth 100000 in
theorem sameGuard_T {lk ht rc : Int} {M L : Nat} {ts gs : List Int} {u v : Value} {W : World} (hM : M = ts.length) (hL : L = gs.length) (h1 : M ≤ 1000) (h2 : L ≤ 1000) (hu : KG lk ht rc M ts L gs u W) (hv : KG lk ht rc M ts L gs v W) : Calls Tryz.prog 13 #[u, v] W (KP (KV (.bool true)) W) := by
  obtain ⟨A1, c1, A2, c2, rfl, hT, hG⟩ := hu
  obtain ⟨A3, c3, A4, c4, rfl, hT2, hG2⟩ := hv
  have HT := Lib.hid (show KS M ts (.slice A1 M c1) W from ⟨_, _, rfl, hT⟩)
  have HG := Lib.hid (show KS L gs (.slice A2 L c2) W from ⟨_, _, rfl, hG⟩)
  have HT2 := Lib.hid (show KS M ts (.slice A3 M c3) W from ⟨_, _, rfl, hT2⟩)
  have HG2 := Lib.hid (show KS L gs (.slice A4 L c4) W from ⟨_, _, rfl, hG2⟩)
  have HS1 : Hid (∀ {x y : Value} (W : World), KS M ts x W → KS M ts y W → Calls Tryz.prog 28 #[x, y] W (KP (KV (.bool true)) W)) := Lib.hid (fun W q q2 => same_T rfl hM hM (by omega) q q2)
  have HS2 : Hid (∀ {x y : Value} (W : World), KS L gs x W → KS L gs y W → Calls Tryz.prog 28 #[x, y] W (KP (KV (.bool true)) W)) := Lib.hid (fun W q q2 => same_T rfl hL hL (by omega) q q2)
  clear hM hL h1 h2 hT hG hT2 hG2
  go_enter Tryz.func13, Tryz.ntmps13
  go_wp2_with (go_at_call 28; refine name_calls ?_; intro w1 e1; refine Hid.out ?_)
  unfold Hid
  have hb1 : Below W.heap.size W w1 := by rw [e1]; exact bel
  have ba := Lib.hid (show Blk w1 W.heap.size #[(.int .i64 lk), (.int .i64 ht), .slice A1 M c1, (.int .i64 rc), .slice A2 L c2] by rw [e1]; (repeat (first | ((with_reducible refine Blk.at_ ?_); focus (first | rfl | (simp; done) | (simp; omega))) | (with_reducible refine Blk.alloc ?_ _) | (with_reducible refine Blk.below ?_ (by with_reducible assumption)) | (with_reducible refine Blk.drew ?_))))
  have bb := Lib.hid (show Blk w1 (W.heap.size + 1) #[(.int .i64 lk), (.int .i64 ht), .slice A3 M c3, (.int .i64 rc), .slice A4 L c4] by rw [e1]; (repeat (first | ((with_reducible refine Blk.at_ ?_); focus (first | rfl | (simp; done) | (simp; omega))) | (with_reducible refine Blk.alloc ?_ _) | (with_reducible refine Blk.below ?_ (by with_reducible assumption)) | (with_reducible refine Blk.drew ?_))))
  have HB1 := Lib.hid hb1
  clear e1 hb1
  refine (HS1.out _ (KS.st _ _ _ _ _ HT.out HB1.out) (KS.st _ _ _ _ _ HT2.out HB1.out)).mono ?_
  rintro r w2 ⟨v2, rfl, hk, hb2⟩
  obtain rfl := hk
  have HB2 := Lib.hid (HB1.out.trans (hb2.mono HB1.out.size))
  obtain ⟨a0, a1, a2, a3, a4, al, -⟩ := (ba.out.below hb2).o5
  obtain ⟨b0, b1, b2, b3, b4, bl, -⟩ := (bb.out.below hb2).o5
  clear hb2 HS1
  go_wp2_with (go_at_call 28; refine name_calls ?_; intro w3 e3; refine Hid.out ?_)
  unfold Hid
  have hb3 : Below w2.heap.size w2 w3 := by rw [e3]; exact bel
  have HB3 := Lib.hid (HB2.out.trans (hb3.mono HB2.out.size))
  clear e3 hb3 a0 a1 a2 a3 a4 al b0 b1 b2 b3 b4 bl
  refine (HS2.out _ (KS.st _ _ _ _ _ HG.out HB3.out) (KS.st _ _ _ _ _ HG2.out HB3.out)).mono ?_
  rintro r w4 ⟨v4, rfl, hk, hb4⟩
  obtain rfl := hk
  have HB4 := Lib.hid (HB3.out.trans (hb4.mono HB3.out.size))
  clear hb4
  go_wp2
  go_ret
  exact ⟨_, by first | rfl | (simp; done), rfl, HB4.out⟩
theorem textR_ok {lk ht rc : Int} {ts gs : List Int} (h : guardErr lk ht rc ts gs = 0) : textR lk ht rc ts gs = textG lk ht rc ts gs := if_pos h
end Go.Proofs.YtdeapbihbhoefaaGreatDoor

/- The reference's Steady, Quiet, Cool. -/
namespace Go.Proofs.YtdeapbihbhoefaaGreatDoor
open Go.RowKit
open Calm (bcell Blk)

end Go.Proofs.YtdeapbihbhoefaaGreatDoor

/- The reference's Behind. -/
namespace Go.Proofs.YtdeapbihbhoefaaGreatDoor
open Go.RowKit
open Calm (bcell Blk)

namespace RelH
open Rel (ons Know)
variable {DS : List Tmp} {w0 : World} {a0 : Act} {T : Ctx → Prop} {Γ : Ctx} {o : Oper} {rest : List Oper}
end RelH

end Go.Proofs.YtdeapbihbhoefaaGreatDoor

/- The reference's Tails. -/
namespace Go.Proofs.YtdeapbihbhoefaaGreatDoor
open Go.RowKit
open Calm (bcell Blk)
end Go.Proofs.YtdeapbihbhoefaaGreatDoor

/- The reference's Safe. -/
namespace Go.Proofs.YtdeapbihbhoefaaGreatDoor
open Go.RowKit
open Calm (bcell Blk)
end Go.Proofs.YtdeapbihbhoefaaGreatDoor

/- The reference's Permitted. -/
namespace Go.Proofs.YtdeapbihbhoefaaGreatDoor
open Go.RowKit
open Calm (bcell Blk)
namespace RelH
open Rel (ons Know)
variable {P : Program} {DS : List Tmp} {w0 : World} {a0 : Act} {T : Ctx → Prop} {Γ : Ctx} {o : Oper} {rest : List Oper}
end RelH
end Go.Proofs.YtdeapbihbhoefaaGreatDoor

/- The reference's Step. -/
namespace Go.Proofs.YtdeapbihbhoefaaGreatDoor
open Go.RowKit
open Calm (bcell Blk)
end Go.Proofs.YtdeapbihbhoefaaGreatDoor

/- The reference's Release. -/
namespace Go.Proofs.YtdeapbihbhoefaaGreatDoor
open Go.RowKit
open Calm (bcell Blk)

end Go.Proofs.YtdeapbihbhoefaaGreatDoor

/- Contracts of the program and of the reference as the cases of ProtectStates want them. -/
namespace Go.Proofs.YtdeapbihbhoefaaGreatDoor
open Go.RowKit
open Calm (bcell Blk)
section
variable {lk ht rc h lv x : Int} {ts gs l : List Int} {M L n : Nat} {a y : Value} {W : World} (hM : M = ts.length) (hL : L = gs.length) (hn : n = l.length) (h1 : M ≤ 1000) (h2 : L ≤ 1000) (h3 : n ≤ 1000) (hLim : Lim W) (hu : KG lk ht rc M ts L gs a W) (hv : KT h lv n l y W)
include hM hL hn h1 h2 h3 hLim hu hv
end
end Go.Proofs.YtdeapbihbhoefaaGreatDoor

/- What a round of ProtectReads' loop needs. -/
namespace Go.Proofs.YtdeapbihbhoefaaGreatDoor
open Go.RowKit
open Calm (bcell Blk)
end Go.Proofs.YtdeapbihbhoefaaGreatDoor

/- The reference's texts: numbers with a sign. -/
namespace Go.Proofs.YtdeapbihbhoefaaGreatDoor
open Go.RowKit
open Go.Lib
open Calm (bcell Blk)
set_option maxHeartbeats 1000000 in
set_option maxRecDepth 100000 in
theorem text_int (z : Int) (w : World) (h1 : -1000000000 < z) (h2 : z < 1000000000) : Calls Tryz.prog 78 #[(.int .i64 z)] w fun r w' => r = .returned (.string ⟨(itoa z).toArray⟩) ∧ w = w' := by
  rcases Int.lt_or_le z 0 with h | h
  · obtain ⟨k, hk⟩ : ∃ k : Nat, -z = (k : Int) := ⟨(-z).toNat, by omega⟩
    obtain ⟨t, ht⟩ : ∃ t : ByteArray, t = ⟨(decDigits k).toArray⟩ := ⟨_, rfl⟩
    have hz : itoa z = 45 :: decDigits k := by rw [show z = -(k : Int) by omega, itoa_neg k (by omega)]
    have HT : Hid (∀ W : World, Calls Tryz.prog 78 #[(.int .i64 ((k : Int)))] W fun r w' => r = .returned (.string t) ∧ W = w') := Lib.hid (fun W => by rw [ht]; exact text_nat k W (by omega))
    have hl : t.data.toList.length ≤ 20 := by rw [ht]; have := dec_len (u := k) (by omega); simp; omega
    have HL := Lib.hid hl
    have hz' : itoa z = 45 :: t.data.toList := by rw [hz, ht]
    have HZ := Lib.hid hz'
    have hk' : 0 - z = (k : Int) := by omega
    clear ht hz hz' hl hk
    go_enter Tryz.func78, Tryz.ntmps78
    go_wp2_with (go_at_call 78; refine (HT.out _).mono ?_; rintro r w1 ⟨rfl, rfl⟩; refine Hid.out ?_)
    unfold Hid
    have hn : ¬ 9223372036854775807 < 1 + t.size := by have := HL.out; simp at this; omega
    go_wp2
    go_ret
    exact ⟨by rw [HZ.out]; congr 2, rfl⟩
  · obtain ⟨k, rfl⟩ : ∃ k : Nat, z = (k : Int) := ⟨z.toNat, by omega⟩
    rw [itoa_nonneg]
    exact text_nat k w (by omega)
end Go.Proofs.YtdeapbihbhoefaaGreatDoor

/- The reference's texts: rows of numbers. -/
namespace Go.Proofs.YtdeapbihbhoefaaGreatDoor
open Go.RowKit
open Go.Lib
open Calm (bcell Blk)
/-- numbers, each behind a blank. -/
def joinI (l : List Int) : List UInt8 := l.flatMap fun x => 32 :: itoa x
theorem joinI_snoc (l : List Int) (x : Int) : joinI (l ++ [x]) = joinI l ++ 32 :: itoa x := by simp [joinI]
theorem itoa_len10 {z : Int} (h1 : -1000000000 < z) (h2 : z < 1000000000) : (itoa z).length ≤ 10 := by
  rcases Int.lt_or_le z 0 with h | h
  · obtain ⟨k, hk⟩ : ∃ k : Nat, -z = (k : Int) := ⟨(-z).toNat, by omega⟩
    rw [show z = -(k : Int) by omega, itoa_neg k (by omega)]
    have := dec_len (u := k) (by omega)
    simp; omega
  · obtain ⟨k, rfl⟩ : ∃ k : Nat, z = (k : Int) := ⟨z.toNat, by omega⟩
    rw [itoa_nonneg]
    have := dec_len (u := k) (by omega)
    omega
theorem joinI_len {l : List Int} (h : ∀ x ∈ l, -1000000000 < x ∧ x < 1000000000) : (joinI l).length ≤ 11 * l.length := by
  induction l with
  | nil => simp [joinI]
  | cons x r ih =>
    have h1 := ih (fun y hy => h y (by simp [hy]))
    have h2 := itoa_len10 (h x (by simp)).1 (h x (by simp)).2
    have e : joinI (x :: r) = (32 :: itoa x) ++ joinI r := by simp [joinI]
    rw [e]; simp; omega
set_option maxHeartbeats 1000000 in
set_option maxRecDepth 100000 in
theorem joined_any (l : List Int) (A : Option Addr) (c n : Nat) (w : World) (hn : n = l.length) (h9 : n ≤ 1000) (hb : ∀ x ∈ l, -1000000000 < x ∧ x < 1000000000) (hC : Cells w A l) :
    Calls Tryz.prog 45 #[.slice A n c] w fun r w' => r = .returned (.string ⟨(joinI l).toArray⟩) ∧ w = w' := by
  have HC := Lib.hid hC
  have HN := Lib.hid hn
  have HT : Hid (∀ (k : Nat) (W : World), k < n → Calls Tryz.prog 78 #[(.int .i64 (l.getD k 0))] W fun r w' => r = .returned (.string ⟨(itoa (l.getD k 0)).toArray⟩) ∧ W = w') := Lib.hid (fun k W hk => by
    have hm : l.getD k 0 ∈ l := by rw [List.getD_eq_getElem?_getD, List.getElem?_eq_getElem (by omega)]; exact List.getElem_mem _
    exact text_int _ W (hb _ hm).1 (hb _ hm).2)
  have HLen : Hid (∀ k, k ≤ n → (joinI (l.take k)).length ≤ 11 * k) := Lib.hid (fun k hk => by
    have := joinI_len (l := l.take k) (fun x hx => hb x (List.mem_of_mem_take hx))
    simp at this; omega)
  have HTl : Hid (∀ k, k < n → (itoa (l.getD k 0)).length ≤ 10) := Lib.hid (fun k hk => by
    have hm : l.getD k 0 ∈ l := by rw [List.getD_eq_getElem?_getD, List.getElem?_eq_getElem (by omega)]; exact List.getElem_mem _
    exact itoa_len10 (hb _ hm).1 (hb _ hm).2)
  have HS : Hid (∀ k, k < n → joinI (l.take (k + 1)) = joinI (l.take k) ++ 32 :: itoa (l.getD k 0)) := Lib.hid (fun k hk => by
    rw [List.take_succ_eq_append_getElem (by omega), joinI_snoc, List.getD_eq_getElem?_getD, List.getElem?_eq_getElem (by omega)]; rfl)
  clear hC hn hb
  go_enter Tryz.func45, Tryz.ntmps45
  go_wp2
  go_loop [3, 4] (fun s i => ∃ (k : Nat) (p : ByteArray), k ≤ n ∧ i = (.int .i64 ((k : Int))) ∧ s = .string p ∧ p = ⟨(joinI (l.take k)).toArray⟩) (fun _ i => n - (RowKit.intOf i).toNat)
  case atStart => exact ⟨0, ⟨#[]⟩, Nat.zero_le _, rfl, rfl, rfl⟩
  case round =>
    obtain ⟨k, p, hk, rfl, rfl, hp⟩ := hrel
    by_cases hlt : k < n
    · obtain ⟨b1, o1, rfl, hbl, hcell⟩ := HC.out (by rw [← HN.out]; omega)
      have hck := hcell k (by rw [← HN.out]; exact hlt)
      have hl1 := HLen.out k hk
      have hl2 := HTl.out k hlt
      have HTk := Lib.hid (fun W => HT.out k W hlt)
      obtain ⟨x, hx⟩ : ∃ x, x = l.getD k 0 := ⟨_, rfl⟩
      obtain ⟨t, ht⟩ : ∃ t : ByteArray, t = ⟨(itoa (l.getD k 0)).toArray⟩ := ⟨_, rfl⟩
      rw [← ht, ← hx] at HTk
      rw [← hx] at hck
      have hps : p.size = (joinI (l.take k)).length := by rw [hp]; rfl
      have hts : t.size = (itoa (l.getD k 0)).length := by rw [ht]; rfl
      have hE : (⟨(joinI (l.take (k + 1))).toArray⟩ : ByteArray) = p ++ ⟨#[32]⟩ ++ t := by
        rw [HS.out k hlt, hp, ht]
        apply ByteArray.ext
        simp
      have HE := Lib.hid hE
      have hi : (k : Int) < (n : Int) := by omega
      have hn1 : ¬ 9223372036854775807 < p.size + 1 := by omega
      have hn2 : ¬ 9223372036854775807 < p.size + 1 + t.size := by omega
      have HKN := Lib.hid hlt
      clear hcell hl1 hl2 hx ht hps hts hE hp
      go_wp2_with (go_at_call 78; refine (HTk.out _).mono ?_; rintro r w1 ⟨rfl, rfl⟩; refine Hid.out ?_)
      unfold Hid
      go_wp2
      go_round
      case rel => exact ⟨k + 1, _, by have := HKN.out; omega, by go_num, rfl, by rw [HE.out]⟩
      case measure => have := HKN.out; simp [RowKit.intOf]; omega
    · obtain rfl : k = n := by omega
      have HP := Lib.hid hp
      clear hp
      go_wp2
      go_ret
      exact ⟨by first | rfl | (rw [HP.out, List.take_of_length_le (by rw [HN.out]; omega)]; rfl), rfl⟩
end Go.Proofs.YtdeapbihbhoefaaGreatDoor

/- The reference's texts: a guard's text. -/
namespace Go.Proofs.YtdeapbihbhoefaaGreatDoor
open Go.RowKit
open Go.Lib
open Calm (bcell Blk)
theorem join_flat (x : List UInt8) (r : List (List UInt8)) : join (x :: r) [32] = x ++ r.flatMap fun y => 32 :: y := by
  induction r generalizing x with
  | nil => simp [join_cons, joinTail]
  | cons y t ih => rw [join_cons2, ih]; simp
theorem textG_join (lk ht rc : Int) (ts gs : List Int) : textG lk ht rc ts gs = guardW ++ joinI [lk, ht, rc] ++ (32 :: tapsW) ++ joinI ts ++ (32 :: gainsW) ++ joinI gs := by
  unfold textG wordsG
  simp only [List.cons_append, List.nil_append]
  rw [join_flat]
  simp [joinI, List.flatMap_map, List.flatMap_append, List.flatMap_cons]
end Go.Proofs.YtdeapbihbhoefaaGreatDoor

/- The reference's Print of a valid guard. -/
namespace Go.Proofs.YtdeapbihbhoefaaGreatDoor
open Go.RowKit
open Go.Lib
open Calm (bcell Blk)
set_option maxRecDepth 100000 in
set_option maxHeartbeats 4000000 in
theorem rPrint_K (lk ht rc : Int) (M L : Nat) (ts gs : List Int) (u : Value) (w : World) (hM : M = ts.length) (hL : L = gs.length) (hg : guardErr lk ht rc ts gs = 0) (hu : KG lk ht rc M ts L gs u w) :
    Calls Tryz.prog 11 #[u] w (KP (KV (.string ⟨(textG lk ht rc ts gs).toArray⟩)) w) := by
  obtain ⟨A1, c1, A2, c2, rfl, hT, hG⟩ := hu
  have hV : Valid lk ht rc ts gs := guard_valid hg
  have b1 : ∀ x ∈ ts, -1000000000 < x ∧ x < 1000000000 := fun x hx => by have := hV.tb x hx; omega
  have b2 : ∀ x ∈ gs, -1000000000 < x ∧ x < 1000000000 := fun x hx => by
    obtain ⟨k, hk, rfl⟩ := List.getElem_of_mem hx
    have := hV.gb k
    rw [List.getD_eq_getElem?_getD, List.getElem?_eq_getElem hk] at this
    simp at this; omega
  have b0 : ∀ x ∈ [lk, ht, rc], -1000000000 < x ∧ x < 1000000000 := fun x hx => by
    have h1 := hV.lk
    have h2 := hV.ht
    have h3 := hV.rc
    simp at hx
    rcases hx with rfl | rfl | rfl <;> omega
  have e1 := hV.tl
  have e2 := hV.gl
  obtain ⟨j1, hj1⟩ : ∃ j1 : ByteArray, j1 = ⟨(joinI [lk, ht, rc]).toArray⟩ := ⟨_, rfl⟩
  obtain ⟨j2, hj2⟩ : ∃ j2 : ByteArray, j2 = ⟨(joinI ts).toArray⟩ := ⟨_, rfl⟩
  obtain ⟨j3, hj3⟩ : ∃ j3 : ByteArray, j3 = ⟨(joinI gs).toArray⟩ := ⟨_, rfl⟩
  have l1 : j1.size ≤ 33 := by have := joinI_len b0; rw [hj1]; exact this
  have l2 : j2.size ≤ 88 := by have := joinI_len b1; rw [hj2]; show (joinI ts).length ≤ 88; omega
  have l3 : j3.size ≤ 88 := by have := joinI_len b2; rw [hj3]; show (joinI gs).length ≤ 88; omega
  have HJ1 : Hid (∀ (g : Nat) (W : World), W.heap[g]? = some (.cells #[(.int .i64 lk), (.int .i64 ht), (.int .i64 rc)] 3 (0, 0)) → Calls Tryz.prog 45 #[.slice (some ⟨g, 0, none⟩) 3 3] W (KP (KV (.string j1)) W)) := Lib.hid (fun g W h => by
    rw [hj1]
    exact (joined_any [lk, ht, rc] _ 3 3 W rfl (by omega) b0 (Cells.row h)).mono fun e W' ⟨k1, k2⟩ => ⟨_, k1, rfl, k2 ▸ Below.refl _ _⟩)
  have HJ2 : Hid (∀ {v : Value} (W : World), KS M ts v W → Calls Tryz.prog 45 #[v] W (KP (KV (.string j2)) W)) := Lib.hid (fun W h => by
    obtain ⟨B, c, rfl, hC⟩ := h
    rw [hj2]
    exact (joined_any ts B c M W hM (by omega) b1 hC).mono fun e W' ⟨k1, k2⟩ => ⟨_, k1, rfl, k2 ▸ Below.refl _ _⟩)
  have HJ3 : Hid (∀ {v : Value} (W : World), KS L gs v W → Calls Tryz.prog 45 #[v] W (KP (KV (.string j3)) W)) := Lib.hid (fun W h => by
    obtain ⟨B, c, rfl, hC⟩ := h
    rw [hj3]
    exact (joined_any gs B c L W hL (by omega) b2 hC).mono fun e W' ⟨k1, k2⟩ => ⟨_, k1, rfl, k2 ▸ Below.refl _ _⟩)
  have HE : Hid ((⟨#[103, 117, 97, 114, 100]⟩ : ByteArray) ++ j1 ++ ⟨#[32, 116, 97, 112, 115]⟩ ++ j2 ++ ⟨#[32, 103, 97, 105, 110, 115]⟩ ++ j3 = ⟨(textG lk ht rc ts gs).toArray⟩) := Lib.hid (by
    rw [textG_join, hj1, hj2, hj3]
    apply ByteArray.ext
    simp [guardW, tapsW, gainsW])
  have HTS := Lib.hid (show KS M ts (.slice A1 M c1) w from ⟨_, _, rfl, hT⟩)
  have HGS := Lib.hid (show KS L gs (.slice A2 L c2) w from ⟨_, _, rfl, hG⟩)
  have n1 : ¬ 9223372036854775807 < 5 + j1.size := by omega
  have n2 : ¬ 9223372036854775807 < 5 + j1.size + 5 := by omega
  have n3 : ¬ 9223372036854775807 < 5 + j1.size + 5 + j2.size := by omega
  have n4 : ¬ 9223372036854775807 < 5 + j1.size + 5 + j2.size + 6 := by omega
  have n5 : ¬ 9223372036854775807 < 5 + j1.size + 5 + j2.size + 6 + j3.size := by omega
  clear hM hL hg hT hG hV b0 b1 b2 e1 e2 hj1 hj2 hj3 l1 l2 l3
  go_enter Tryz.func11, Tryz.ntmps11
  have HB0 := Lib.hid (Below.refl w.heap.size w)
  go_wp2
  refine name_world ?_
  intro w1 e1
  have h1 : Below w.heap.size w w1 := by rw [e1]; exact bel
  have HB1 := Lib.hid (HB0.out.trans (h1.mono HB0.out.size))
  have bg_1 := Lib.hid (show Blk w1 w.heap.size #[(.int .i64 lk), (.int .i64 ht), .slice A1 M c1, (.int .i64 rc), .slice A2 L c2] from by rw [e1]; (repeat (first | ((with_reducible refine Blk.at_ ?_); focus (first | rfl | (simp; done) | (simp; omega))) | (with_reducible refine Blk.alloc ?_ _) | (with_reducible refine Blk.below ?_ (by with_reducible assumption)) | (with_reducible refine Blk.drew ?_))))
  clear e1 h1
  obtain ⟨fbg_0, fbg_1, fbg_2, fbg_3, fbg_4, fbg_l, -⟩ := bg_1.out.o5
  refine Rel.region3 19 (by kernel_rfl) (by kernel_rfl) (by kernel_rfl) ?_
  simp only [List.take_succ_cons, List.take_zero, List.drop_succ_cons, List.drop_zero, List.filterMap_cons, List.filterMap_nil]
  iterate 6 (refine Rel.opz (hn := ?_); (try simp only [List.nil_append, List.cons_append]))
  (apply Rel.buildT3 3 3 3 #[(.int .i64 lk), (.int .i64 ht), (.int .i64 rc)]; (focus (first | exact Rel.gno rfl | exact Rel.gyes _ true _ rfl rfl rfl | exact Rel.gyes _ false _ rfl rfl rfl)); (focus (intro a W hb hd hbase; obtain ⟨hc, hf⟩ := bcell hb; clear hb hf; simp [Rel.deps, Rel.dep1, Rel.ons, Region.binds, Act.eval, KV] at hd; simp only [Act.eval, List.mem_cons, List.not_mem_nil, not_or, and_imp, or_false, Array.getD_eq_getD_getElem?] at hbase; go_simp; (first | done | rfl | (refine ⟨?_, ?_⟩; rfl; rfl)))); (try simp only [List.nil_append, List.cons_append]))
  refine Rel.callK 45 (KV (.string j1)) (KV.st _) (Rel.gno rfl) ?_ ?_
  · intro a W hb hd hbase
    obtain ⟨g, q1, _, q2⟩ := (Rel.dep_at hd 6 rfl rfl)
    refine ⟨#[a.eval (.tmp 9)], ?_, by rw [q1]; exact HJ1.out g _ q2⟩
    clear hd hbase hb
    go_simp
    (first | done | rfl | (refine ⟨?_, ?_⟩ <;> rfl))
  (try simp only [List.nil_append, List.cons_append])
  iterate 4 (refine Rel.opz (hn := ?_); (try simp only [List.nil_append, List.cons_append]))
  refine Rel.callK 45 (KV (.string j2)) (KV.st _) (Rel.gno rfl) ?_ ?_
  · intro a W hb hd hbase
    have q1 : a.eval (.tmp 14) = _ := (Rel.dep_at hd 11 rfl rfl)
    refine ⟨#[a.eval (.tmp 14)], ?_, by rw [q1]; exact HJ2.out _ (KS.st _ _ _ _ _ HTS.out (HB1.out.trans (hb.mono HB1.out.size)))⟩
    clear hd hbase hb
    go_simp
    (first | done | rfl | (refine ⟨?_, ?_⟩ <;> rfl))
  (try simp only [List.nil_append, List.cons_append])
  iterate 4 (refine Rel.opz (hn := ?_); (try simp only [List.nil_append, List.cons_append]))
  refine Rel.callK 45 (KV (.string j3)) (KV.st _) (Rel.gno rfl) ?_ ?_
  · intro a W hb hd hbase
    have q1 : a.eval (.tmp 19) = _ := (Rel.dep_at hd 16 rfl rfl)
    refine ⟨#[a.eval (.tmp 19)], ?_, by rw [q1]; exact HJ3.out _ (KS.st _ _ _ _ _ HGS.out (HB1.out.trans (hb.mono HB1.out.size)))⟩
    clear hd hbase hb
    go_simp
    (first | done | rfl | (refine ⟨?_, ?_⟩ <;> rfl))
  (try simp only [List.nil_append, List.cons_append])
  (refine Rel.opz (hn := ?_); (try simp only [List.nil_append, List.cons_append]))
  refine Rel.done3 ?_
  intro x w2 h2 hx
  simp only [Rel.facts, Nat.zero_add, Nat.reduceAdd] at hx
  clear fbg_0 fbg_1 fbg_2 fbg_3 fbg_4 fbg_l
  obtain ⟨e0, e1, e2, e3, e4, e5, _, e7, e8, e9, e10, e11, e12, e13, e14, e15, e16, e17, e18, _⟩ := hx
  have e7 : x 7 = _ := e7
  have e12 : x 12 = _ := e12
  have e17 : x 17 = _ := e17
  simp only [Rel.fill, Nat.zero_add, Nat.reduceAdd, e0, e1, e2, e3, e4, e5, e7, e8, e9, e10, e11, e12, e13, e14, e15, e16, e17, e18]
  simp only [Act.put, List.setIfInBounds_toArray, List.set_cons_zero, List.set_cons_succ]
  clear e0 e1 e2 e3 e4 e5 e7 e8 e9 e10 e11 e12 e13 e14 e15 e16 e17 e18
  have bg_2 := Lib.hid (bg_1.out.below h2)
  have HB2 := Lib.hid (HB1.out.trans (h2.mono HB1.out.size))
  clear h2
  go_wp2
  go_ret
  exact ⟨_, by rw [← HE.out]; rfl, rfl, HB2.out⟩
end Go.Proofs.YtdeapbihbhoefaaGreatDoor

/- The reference's numbers with a sign. -/
namespace Go.Proofs.YtdeapbihbhoefaaGreatDoor
open Go.RowKit
open Go.Lib
open Calm (bcell Blk)
theorem isS_minus {l : List UInt8} (h : l.head? = some 45) : isS l = ((numL l.tail).isSome && decide (0 < (numL l.tail).getD 0)) ∧ (isS l = true → valS l = -(((numL l.tail).getD 0 : Nat) : Int)) := by
  unfold isS valS sgnL
  rw [if_pos h]
  cases numL l.tail with
  | none => simp
  | some k => by_cases hk : 0 < k <;> simp [hk]
theorem isS_plain {l : List UInt8} (h : ¬ l.head? = some 45) : isS l = (numL l).isSome ∧ (isS l = true → valS l = (((numL l).getD 0 : Nat) : Int)) := by
  unfold isS valS sgnL
  rw [if_neg h]
  cases numL l with
  | none => simp
  | some k => simp
set_option maxHeartbeats 1000000 in
set_option maxRecDepth 100000 in
theorem signed_any (s : ByteArray) (w : World) (hs : s.size ≤ 100000) : Calls Tryz.prog 47 #[.string s] w fun r w' => ∃ v : Int, r = .returned (.tuple #[(.int .i64 v), .bool (isS s.data.toList)]) ∧ (isS s.data.toList = true → v = valS s.data.toList) ∧ w = w' := by
  by_cases h0 : 0 < s.size
  · have hh : s.data.toList.head? = some s[0] := by rw [List.head?_eq_getElem?, List.getElem?_eq_getElem (by simpa using h0)]; rfl
    by_cases h45 : s[0].toNat = 45
    · have hm : s.data.toList.head? = some 45 := by rw [hh]; exact congrArg some (UInt8.toNat_inj.1 h45)
      obtain ⟨m1, m2⟩ := isS_minus hm
      have htl : (s.extract 1 s.size).data.toList = s.data.toList.tail := by simp [List.drop_one]; exact List.take_of_length_le (by simp)
      have hn := fun W => refNumber_any (s.extract 1 s.size) W (by simp; omega)
      rw [htl] at hn
      obtain ⟨k, hk⟩ : ∃ k, k = (numL s.data.toList.tail).getD 0 := ⟨_, rfl⟩
      obtain ⟨b, hb⟩ : ∃ b, b = (numL s.data.toList.tail).isSome := ⟨_, rfl⟩
      rw [← hk, ← hb] at hn
      rw [← hk] at m2
      rw [← hk, ← hb] at m1
      have hkb : (k : Int) ≤ 1000000000 := by
        rw [hk]
        cases hq : numL s.data.toList.tail with
        | none => show (0 : Int) ≤ _; decide
        | some j => have := (numL_some hq).2.2.2.2; show (j : Int) ≤ _; omega
      obtain ⟨S, hS⟩ : ∃ S, S = isS s.data.toList := ⟨_, rfl⟩
      obtain ⟨V, hV⟩ : ∃ V, V = valS s.data.toList := ⟨_, rfl⟩
      rw [← hS, ← hV] at m2 ⊢
      rw [← hS] at m1
      have HN := Lib.hid hn
      have M1 := Lib.hid m1
      have M2 := Lib.hid m2
      clear hn m1 m2 hk hb hS hV htl hh hm
      go_enter Tryz.func47, Tryz.ntmps47
      go_wp2_with (go_at_call 79; refine (HN.out _).mono ?_; rintro r w1 ⟨rfl, rfl⟩; refine Hid.out ?_)
      unfold Hid
      have hk0 : 0 ≤ (k : Int) := by omega
      cases b with
      | true =>
        go_wp2
        refine bodyPost_ret (v := .tuple #[(.int .i64 (-(k : Int))), .bool (decide (0 < (k : Int)))]) (by simp [results, Tryz.results47, go_sem]) rfl ⟨_, by rw [M1.out]; simp, fun h => (M2.out h).symm, rfl⟩
      | false =>
        go_wp2
        refine bodyPost_ret (v := .tuple #[(.int .i64 (-(k : Int))), .bool false]) (by simp [results, Tryz.results47, go_sem]) rfl ⟨_, by rw [M1.out]; simp, fun h => (M2.out h).symm, rfl⟩
    · have hm : ¬ s.data.toList.head? = some 45 := by rw [hh]; intro h; exact h45 (congrArg UInt8.toNat (Option.some.inj h))
      obtain ⟨m1, m2⟩ := isS_plain hm
      have HN := Lib.hid (fun W => refNumber_any s W (by omega))
      have M1 := Lib.hid m1
      have M2 := Lib.hid m2
      have h46 : ((s[0].toNat : Int) == 45) = false := by simp; omega
      clear m1 m2 hm hh
      go_enter Tryz.func47, Tryz.ntmps47
      go_wp2_with (go_at_call 79; refine (HN.out _).mono ?_; rintro r w1 ⟨rfl, rfl⟩; refine Hid.out ?_)
      unfold Hid
      go_wp2
      refine bodyPost_ret (v := .tuple #[(.int .i64 ((((numL s.data.toList).getD 0 : Nat) : Int))), .bool (numL s.data.toList).isSome]) (by simp [results, Tryz.results47, go_sem]) rfl ⟨_, by rw [M1.out], fun h => (M2.out h).symm, rfl⟩
  · have hm : ¬ s.data.toList.head? = some 45 := by rw [show s.data.toList = [] from List.eq_nil_of_length_eq_zero (by rw [size_list]; omega)]; simp
    obtain ⟨m1, m2⟩ := isS_plain hm
    have HN := Lib.hid (fun W => refNumber_any s W (by omega))
    have M1 := Lib.hid m1
    have M2 := Lib.hid m2
    have h46 : ¬ 0 < (s.size : Int) := by omega
    clear m1 m2 hm
    go_enter Tryz.func47, Tryz.ntmps47
    go_wp2_with (go_at_call 79; refine (HN.out _).mono ?_; rintro r w1 ⟨rfl, rfl⟩; refine Hid.out ?_)
    unfold Hid
    go_wp2
    refine bodyPost_ret (v := .tuple #[(.int .i64 ((((numL s.data.toList).getD 0 : Nat) : Int))), .bool (numL s.data.toList).isSome]) (by simp [results, Tryz.results47, go_sem]) rfl ⟨_, by rw [M1.out], fun h => (M2.out h).symm, rfl⟩
end Go.Proofs.YtdeapbihbhoefaaGreatDoor

/- Contract of the reference's Split (T3 of drv, behind RQ8). -/
namespace Go.Proofs.YtdeapbihbhoefaaGreatDoor
open Go.RowKit
open Go.Lib
open Calm (bcell Blk)

theorem cutL_snoc {c x : UInt8} : ∀ {l : List UInt8} {out : List (List UInt8)} {q : List UInt8}, cutL c l = out ++ [q] → cutL c (l ++ [x]) = if x = c then out ++ [q] ++ [[]] else out ++ [q ++ [x]]
  | [], out, q, h => by
    have h1 : out = [] ∧ q = [] := by
      cases out with
      | nil => simp [cutL] at h; exact ⟨rfl, by first | exact h | exact h.symm⟩
      | cons a t => simp [cutL] at h
    obtain ⟨rfl, rfl⟩ := h1
    by_cases hx : x = c <;> simp [cutL, hx]
  | y :: r, out, q, h => by
    rw [List.cons_append]
    unfold cutL at h ⊢
    by_cases hy : y = c
    · rw [if_pos hy] at h ⊢
      cases out with
      | nil =>
        have := cutL_ne c r
        simp at h
        exact absurd h.2 this
      | cons a t =>
        simp only [List.cons_append, List.cons.injEq] at h
        rw [cutL_snoc (x := x) h.2, ← h.1]
        split <;> rfl
    · rw [if_neg hy] at h ⊢
      cases hr : cutL c r with
      | nil => exact absurd hr (cutL_ne c r)
      | cons a t =>
        rw [hr] at h
        simp only [] at h
        cases out with
        | nil =>
          simp only [List.nil_append, List.cons.injEq] at h
          obtain ⟨h1, h2⟩ := h
          subst h2
          rw [cutL_snoc (x := x) (out := []) (q := a) hr, ← h1]
          by_cases hx : x = c <;> simp [hx]
        | cons b u =>
          simp only [List.cons_append, List.cons.injEq] at h
          obtain ⟨h1, h2⟩ := h
          subst h2
          rw [cutL_snoc (x := x) (out := a :: u) (q := q) (by rw [hr]; rfl), ← h1]
          by_cases hx : x = c <;> simp [hx]
/-- the words so far, and where the last one begins. -/
def CutRel (s : ByteArray) (k : Nat) (out : List (List UInt8)) (f : Nat) : Prop := f ≤ k ∧ cutL 32 (s.data.toList.take k) = out ++ [(s.data.toList.take k).drop f]
theorem CutRel.start (s : ByteArray) : CutRel s 0 [] 0 := ⟨Nat.le_refl _, by simp [cutL]⟩
theorem CutRel.hit {s : ByteArray} {k f : Nat} {out : List (List UInt8)} (h : CutRel s k out f) (hk : k < s.size) (hx : s[k] = 32) : CutRel s (k + 1) (out ++ [(s.data.toList.take k).drop f]) (k + 1) := by
  refine ⟨Nat.le_refl _, ?_⟩
  rw [take_snoc s k hk, cutL_snoc h.2, if_pos hx, show (s.data.toList.take k ++ [s[k]]).drop (k + 1) = [] from List.drop_eq_nil_of_le (by rw [List.length_append, List.length_take, size_list, List.length_singleton]; omega)]
theorem CutRel.miss {s : ByteArray} {k f : Nat} {out : List (List UInt8)} (h : CutRel s k out f) (hk : k < s.size) (hx : ¬ s[k] = 32) : CutRel s (k + 1) out f := by
  refine ⟨Nat.le_succ_of_le h.1, ?_⟩
  rw [take_snoc s k hk, cutL_snoc h.2, if_neg hx, List.drop_append_of_le_length (by rw [List.length_take, size_list]; have := h.1; omega)]
theorem CutRel.len {s : ByteArray} {k f : Nat} {out : List (List UInt8)} (h : CutRel s k out f) (hk : k ≤ s.size) : out.length ≤ k := by
  have h1 : ∀ l : List UInt8, (cutL 32 l).length ≤ l.length + 1 := by
    intro l
    induction l with
    | nil => simp [cutL]
    | cons x r ih =>
      unfold cutL
      split
      · simp; omega
      · split
        · simp
        · rename_i hh; rw [hh] at ih; simp at ih ⊢; omega
  have h2 := h1 (s.data.toList.take k)
  rw [h.2, List.length_append, List.length_singleton, List.length_take, size_list] at h2
  omega
theorem piece {s : ByteArray} {f k : Nat} (hf : f ≤ k) (hk : k ≤ s.size) : s.extract f k = ⟨((s.data.toList.take k).drop f).toArray⟩ := by
  apply ByteArray.ext
  apply Array.ext'
  rw [extract_data]
  simp
  rw [List.drop_take]
set_option maxHeartbeats 4000000 in
theorem refSplit_any (s : ByteArray) (w : World) (hl : s.size ≤ 1000000) :
    Calls Tryz.prog 46 #[.string s, .int .u8 32] w fun r w' => ∃ v, r = .returned v ∧ w'.ownsRow w.heap.size 9 1 v (cutL 32 s.data.toList).length (words (cutL 32 s.data.toList)) ∧ Below w.heap.size w w' := by
  obtain ⟨i0, hi, hz0, hz1, hz2⟩ := info_parts Tryz.infoS
  go_enter Tryz.func46, Tryz.ntmps46
  go_wp2
  go_loopw [5, 6, 7] (fun v f i wr => ∃ (k g : Nat) (out : List (List UInt8)), k ≤ s.size ∧ i = (.int .i64 ((k : Int))) ∧ f = (.int .i64 ((g : Int))) ∧ CutRel s k out g ∧ wr.ownsRow w.heap.size 9 1 v out.length (words out) ∧ Below w.heap.size w wr) (fun _ _ i _ => s.size - (RowKit.intOf i).toNat)
  case atStart => exact ⟨0, 0, [], by omega, rfl, rfl, CutRel.start s, World.ownsRow_nil _ _ _ _, Below.refl _ _⟩
  case round =>
    obtain ⟨k, g, out, hk, rfl, rfl, hc, ho, hBr⟩ := hrel
    have hsz := hBr.size
    have hgk := hc.1
    have hlen := hc.len hk
    have HC := Lib.hid hc
    have HO := Lib.hid ho
    have HBR := Lib.hid hBr
    clear hc ho hBr
    by_cases hlt : k < s.size
    · by_cases hx : s[k] = 32
      · have hx2 : ((s[k].toNat : Int) == 32) = true := by rw [hx]; rfl
        have HX := Lib.hid (HC.out.hit hlt hx)
        have HP := Lib.hid (piece (s := s) hgk hk)
        clear hx
        go_wp2_with (at_builtin; refine wpList_append_own _ rfl _ _ 74 rfl w.heap.size 9 i0 _ 1 16 Tryz.underlying74 hi hz0 hz1 hz2 rfl (by decide) _ _ _ rfl (HO.out.alloc _) ⟨wr.heap.size, 0, none⟩ 1 1 [.string (s.extract g k)] rfl rfl ?c1 ?c2 ?c3 ?c4 ?c5 ?_)
        case c1 =>
          intro j u hj
          match j, hj with
          | 0, hj => simp at hj; subst hj; simp [Addr.add]
        case c2 => intro u hu; simp at hu; subst hu; rfl
        case c3 => unfold maxLen; omega
        case c4 => omega
        case c5 => simp; omega
        intro v' w3 hown' hgrow _
        have hB' : Below w.heap.size w w3 := (HBR.out.alloc hsz _).grown hgrow (by simp; omega) (fun j hj => (HO.out.lt j hj).1)
        have HO2 := Lib.hid hown'
        clear hgrow hown'
        go_wp2
        go_roundw
        case rel =>
          refine ⟨k + 1, k + 1, _, by omega, by go_num, by go_num, HX.out, ?_, hB'⟩
          rw [List.length_append, List.length_singleton]
          have := HO2.out
          rw [HP.out] at this
          unfold words at this ⊢
          rw [List.map_append]; exact this
        case measure => simp [RowKit.intOf]; omega
      · have hx2 : ((s[k].toNat : Int) == 32) = false := beq_eq_false_iff_ne.2 (fun e => hx (UInt8.toNat_inj.1 (by show s[k].toNat = 32; omega)))
        have HX := Lib.hid (HC.out.miss hlt hx)
        clear hx
        go_wp2
        go_roundw
        case rel => exact ⟨k + 1, g, out, by omega, by go_num, rfl, HX.out, HO.out, HBR.out⟩
        case measure => simp [RowKit.intOf]; omega
    · obtain rfl : k = s.size := by omega
      have hall : s.data.toList.take s.size = s.data.toList := List.take_of_length_le (by rw [size_list]; exact Nat.le_refl _)
      have hcut := HC.out.2
      rw [hall] at hcut
      have HCUT := Lib.hid hcut
      have HP := Lib.hid (piece (s := s) hgk hk)
      have HALL := Lib.hid hall
      clear hall hcut
      go_wp2_with (at_builtin; refine wpList_append_own _ rfl _ _ 74 rfl w.heap.size 9 i0 _ 1 16 Tryz.underlying74 hi hz0 hz1 hz2 rfl (by decide) _ _ _ rfl (HO.out.alloc _) ⟨wr.heap.size, 0, none⟩ 1 1 [.string (s.extract g s.size)] rfl rfl ?d1 ?d2 ?d3 ?d4 ?d5 ?_)
      case d1 =>
        intro j u hj
        match j, hj with
        | 0, hj => simp at hj; subst hj; simp [Addr.add]
      case d2 => intro u hu; simp at hu; subst hu; rfl
      case d3 => unfold maxLen; omega
      case d4 => omega
      case d5 => simp; omega
      intro v' w3 hown' hgrow _
      have hB' : Below w.heap.size w w3 := (HBR.out.alloc hsz _).grown hgrow (by simp; omega) (fun j hj => (HO.out.lt j hj).1)
      have HO2 := Lib.hid hown'
      clear hgrow hown'
      go_wp2
      go_ret
      refine ⟨_, rfl, ?_, hB'⟩
      have := HO2.out
      rw [HP.out, HALL.out] at this
      rw [HCUT.out]
      unfold words at this ⊢
      rw [List.map_append, List.length_append, List.length_singleton]; exact this
end Go.Proofs.YtdeapbihbhoefaaGreatDoor

/- The reference's reading of the words, plain: it goes through where they are those of a guard. -/
namespace Go.Proofs.YtdeapbihbhoefaaGreatDoor
open Go.RowKit
open Go.Lib
abbrev WL := List (List UInt8)
def markW (k : Nat) : List UInt8 := if k = 0 then gW else if k = 1 then tW else nW
structure SW where
  key : Nat
  a : WL
  b : WL
  c : WL
def stepW (s : SW) (x : List UInt8) : Option SW :=
  if s.key < 3 ∧ x = markW s.key then some { s with key := s.key + 1 }
  else if isS x = false ∨ s.key = 0 then none
  else if s.key = 1 then some { s with a := s.a ++ [x] }
  else if s.key = 2 then some { s with b := s.b ++ [x] }
  else some { s with c := s.c ++ [x] }
def autoW : WL → SW → Option SW
  | [], s => some s
  | x :: r, s => (stepW s x).bind (autoW r)
theorem autoW_app (A B : WL) (s : SW) : autoW (A ++ B) s = (autoW A s).bind (autoW B) := by
  induction A generalizing s with
  | nil => rfl
  | cons x r ih =>
    show (stepW s x).bind (autoW (r ++ B)) = ((stepW s x).bind (autoW r)).bind (autoW B)
    cases stepW s x with
    | none => rfl
    | some t => exact ih t
theorem isS_mark {x : List UInt8} (h : isS x = true) (k : Nat) : x ≠ markW k := by
  obtain ⟨m1, m2, m3, _⟩ := isS_marks
  unfold markW
  split
  · exact isS_ne h m1
  · split
    · exact isS_ne h m2
    · exact isS_ne h m3
theorem auto_nums : ∀ (A : WL) (k : Nat) (a b c : WL), A.all isS = true → autoW A ⟨k + 1, a, b, c⟩ = some (if k = 0 then ⟨1, a ++ A, b, c⟩ else if k = 1 then ⟨2, a, b ++ A, c⟩ else ⟨k + 1, a, b, c ++ A⟩)
  | [], k, a, b, c, _ => by
    simp only [List.append_nil]
    show some _ = some _
    split
    · subst_vars; rfl
    · split
      · subst_vars; rfl
      · rfl
  | x :: r, k, a, b, c, h => by
    rw [List.all_cons, Bool.and_eq_true] at h
    obtain ⟨h1, h2⟩ := h
    have hm := isS_mark h1 (k + 1)
    show (stepW ⟨k + 1, a, b, c⟩ x).bind (autoW r) = _
    unfold stepW
    rw [if_neg (fun h => hm h.2), if_neg (by rw [h1]; simp)]
    by_cases h0 : k = 0
    · subst h0
      have := auto_nums r 0 (a ++ [x]) b c h2
      simpa using this
    · by_cases h1' : k = 1
      · subst h1'
        have := auto_nums r 1 a (b ++ [x]) c h2
        simpa using this
      · have := auto_nums r k a b (c ++ [x]) h2
        simpa [h0, h1'] using this
theorem auto_words {A B C : WL} (ha : A.all isS = true) (hb : B.all isS = true) (hc : C.all isS = true) : autoW (gW :: A ++ tW :: B ++ nW :: C) ⟨0, [], [], []⟩ = some ⟨3, A, B, C⟩ := by
  have e : gW :: A ++ tW :: B ++ nW :: C = [gW] ++ (A ++ ([tW] ++ (B ++ ([nW] ++ C)))) := by simp
  rw [e]
  have s0 : autoW [gW] ⟨0, [], [], []⟩ = some ⟨0 + 1, [], [], []⟩ := rfl
  have s1 : autoW [tW] ⟨1, A, [], []⟩ = some ⟨1 + 1, A, [], []⟩ := rfl
  have s2 : autoW [nW] ⟨2, A, B, []⟩ = some ⟨2 + 1, A, B, []⟩ := rfl
  rw [autoW_app, s0, Option.bind_some, autoW_app, auto_nums A 0 _ _ _ ha]
  simp only [if_true, List.nil_append, Option.bind_some]
  rw [autoW_app, s1, Option.bind_some, autoW_app, auto_nums B 1 _ _ _ hb]
  simp only [Nat.one_ne_zero, if_false, if_true, List.nil_append, Option.bind_some]
  rw [autoW_app, s2, Option.bind_some, auto_nums C 2 _ _ _ hc]
  simp
/-- the words that are read so far. -/
def readW (s : SW) : WL := if s.key = 0 then [] else if s.key = 1 then gW :: s.a else if s.key = 2 then gW :: s.a ++ tW :: s.b else gW :: s.a ++ tW :: s.b ++ nW :: s.c
structure OkS (s : SW) : Prop where
  a : s.a.all isS = true
  b : s.b.all isS = true
  c : s.c.all isS = true
  k : s.key ≤ 3
  a0 : s.key < 1 → s.a = []
  b0 : s.key < 2 → s.b = []
  c0 : s.key < 3 → s.c = []
theorem step_ok {s t : SW} {x : List UInt8} (h : OkS s) (e : stepW s x = some t) : OkS t ∧ readW t = readW s ++ [x] := by
  obtain ⟨k, a, b, c⟩ := s
  obtain ⟨ha, hb, hc, hk, a0, b0, c0⟩ := h
  simp only at ha hb hc hk a0 b0 c0
  unfold stepW at e
  simp only at e
  split at e
  · rename_i h1
    obtain ⟨h1, rfl⟩ := h1
    cases e
    refine ⟨⟨ha, hb, hc, by simp only; omega, fun h => by simp only at h; omega, fun h => by simp only at h ⊢; exact b0 (by omega), fun h => by simp only at h ⊢; exact c0 (by omega)⟩, ?_⟩
    match k, h1 with
    | 0, _ => rw [a0 (by omega)]; rfl
    | 1, _ => rw [b0 (by omega)]; simp [readW, markW]
    | 2, _ => rw [c0 (by omega)]; simp [readW, markW]
  · split at e
    · cases e
    · rename_i h2
      have hx : isS x = true := by cases hq : isS x with | true => rfl | false => exact absurd (Or.inl hq) h2
      have hk0 : k ≠ 0 := fun h => h2 (Or.inr h)
      split at e
      · rename_i h3
        cases e
        subst h3
        exact ⟨⟨by simp [ha, hx], hb, hc, hk, fun h => by simp only at h; omega, b0, c0⟩, by simp [readW]⟩
      · split at e
        · rename_i h4
          cases e
          subst h4
          exact ⟨⟨ha, by simp [hb, hx], hc, hk, a0, fun h => by simp only at h; omega, c0⟩, by simp [readW]⟩
        · cases e
          obtain rfl : k = 3 := by omega
          exact ⟨⟨ha, hb, by simp [hc, hx], hk, a0, b0, fun h => by simp only at h; omega⟩, by simp [readW]⟩
theorem auto_ok : ∀ {W : WL} {s t : SW}, OkS s → autoW W s = some t → OkS t ∧ readW t = readW s ++ W
  | [], s, t, h, e => by cases e; exact ⟨h, by simp⟩
  | x :: r, s, t, h, e => by
    have e' : (stepW s x).bind (autoW r) = some t := e
    cases hs : stepW s x with
    | none => rw [hs] at e'; cases e'
    | some u =>
      rw [hs] at e'
      obtain ⟨h1, h2⟩ := step_ok h hs
      obtain ⟨h3, h4⟩ := auto_ok h1 e'
      exact ⟨h3, by rw [h4, h2]; simp⟩
theorem ok_start : OkS ⟨0, [], [], []⟩ := ⟨rfl, rfl, rfl, by simp, fun _ => rfl, fun _ => rfl, fun _ => rfl⟩
theorem auto_none {W : WL} (h : autoW W ⟨0, [], [], []⟩ = none) : okW W = false := by
  cases hq : okW W with
  | false => rfl
  | true =>
    obtain ⟨e, h1, h2, h3, _⟩ := okW_words hq
    rw [e, auto_words h1 h2 h3] at h
    cases h
theorem auto_short {W : WL} {s : SW} (h : autoW W ⟨0, [], [], []⟩ = some s) (hs : s.key < 3 ∨ s.a.length ≠ 3) : okW W = false := by
  cases hq : okW W with
  | false => rfl
  | true =>
    obtain ⟨e, h1, h2, h3, h4⟩ := okW_words hq
    rw [e, auto_words h1 h2 h3] at h
    cases h
    rcases hs with hs | hs
    · simp at hs
    · exact absurd h4 hs
theorem auto_full {W : WL} {s : SW} (h : autoW W ⟨0, [], [], []⟩ = some s) (hs : ¬ (s.key < 3 ∨ s.a.length ≠ 3)) : okW W = true ∧ hdW W = s.a ∧ tpW W = s.b ∧ gnW W = s.c := by
  obtain ⟨h1, h2⟩ := auto_ok ok_start h
  have hk : s.key = 3 := by have := h1.k; omega
  have e : W = gW :: s.a ++ tW :: s.b ++ nW :: s.c := by
    have : readW s = W := by rw [h2]; rfl
    rw [← this]; unfold readW; rw [hk]; rfl
  have := okW_of h1.a h1.b h1.c (by omega)
  rwa [← e] at this
end Go.Proofs.YtdeapbihbhoefaaGreatDoor

/- append(l, x) onto a row of one's own: where the result lies. The result of Step in a drawn region, told with its place. -/
namespace Go.Proofs.YtdeapbihbhoefaaGreatDoor
open Go.RowKit
open Calm (bcell Blk)
theorem wpList_app1 {w : World} {ops : Array Oper} {rest : List Oper} {o : Oper} {a : Act} {Q : Exit → Act → World → Prop} (hgd : o.guard = none) (s x : Operand)
    (ho : o.op = .call { callee := .builtin .append, args := #[s, x], argTypes := #[22, 22] }) (base : Nat) (u : Value) (n : Nat) (xs : List Value) (hs : a.eval s = u) (hown : w.ownsRow base 3 1 u n xs) (b c : Nat) (z : Int)
    (hx : a.eval x = .slice (some ⟨b, 0, none⟩) 1 c) (hc : w.cell? ⟨b, 0, none⟩ = some (.int .i64 z)) (h5 : n ≤ 100000) (hb : base ≤ w.heap.size)
    (h : ∀ v' w', w'.ownsRow base 3 1 v' (n + 1) (xs ++ [(.int .i64 z)]) → w.grownBy w' u.ownBlock → (v'.ownBlock = u.ownBlock ∨ v'.ownBlock = some w.heap.size) → wpList Tryz.prog ops Q rest (a.put o.dst v') w') : wpList Tryz.prog ops Q (o :: rest) a w := by
  obtain ⟨i0, hi, hz0, hz1, hz2⟩ := info_parts Tryz.infoI
  refine wpList_plain hgd fun K hK => ?_
  obtain ⟨v', w', hrun, r2, r3, _, r5⟩ := run_append_own_at (P := Tryz.prog) w base 22 o.type 3 i0 _ 1 8 Tryz.underlying22 hi hz0 hz1 hz2 rfl (by decide) u n xs hown ⟨b, 0, none⟩ 1 c [(.int .i64 z)] rfl
    (by intro j v hj; match j, hj with | 0, hj => simp at hj; subst hj; simpa [Addr.add] using hc) (by intro v hv; simp at hv; subst hv; rfl) (by unfold maxLen; omega) (by omega) hb
  unfold Oper.wp
  simp [execOp, ho, resolve, invoke, builtin, hs, hx, hrun, Result.andThen]
  exact hK _ _ (h v' w' r2 r3 r5)
namespace RelH
open Rel (ons)
section
variable {DS : List Tmp} {w0 : World} {a0 : Act} {T : Ctx → Prop} {Γ : Ctx} {o : Oper} {rest : List Oper}
end
end RelH
end Go.Proofs.YtdeapbihbhoefaaGreatDoor
