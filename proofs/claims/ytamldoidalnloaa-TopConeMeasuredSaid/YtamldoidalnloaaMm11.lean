/- Part 11 of the texts of the claim: Te2, Te3, Te4, Te5, Te7, Te8, Te9, Tf0, Tf1, Tf2, Tg0. -/
import Derived.Test.YtamldoidalnloaaMm10
import Derived.Test.YtamldoidalnloaaMm8
import Derived.Test.YtamldoidalnloaaMm7
import Derived.Test.YtamldoidalnloaaMm5
import Derived.WalkLawsBesides

/- coneBooth answers true. -/
namespace Go.Proofs.Ytamldoidalnloaa
open Go.RowKit
open Calm (bcell Blk)
theorem run_cone1 (A : Option Addr) (c : Nat) (w : World) (hC : Cells w A [1, 1, 0, 0]) : Calls Try.prog 23 #[.agg #[(.int .i64 2), (.int .i64 (-1)), (.int .i64 1), (.int .i64 0), (.int .i64 0), (.int .i64 0)], .slice A 4 c] w fun r w' => (∃ B d, r = .returned (.tuple #[.slice B 4 d, (.int .i64 0)]) ∧ Cells w' B [2, 1, 0, 1]) ∧ Below w.heap.size w w' := by
  have e : soK 2 (-1) 1 0 0 0 (0, 0, 0, 0) [1, 1, 0, 0] 4 = [2, 1, 0, 1] := by decide
  refine (Run_ok 2 (-1) 1 0 0 0 [1, 1, 0, 0] A c w (by unfold bd15; omega) (by unfold bd15; omega) (by unfold bd15; omega) (by unfold bd15; omega) (by unfold bd15; omega) (by omega) (by intro x hx; simp at hx; omega) (by simp) hC (by decide) (by decide)).mono ?_
  rintro r w' ⟨⟨B, d, h1, -, h2⟩, h3⟩
  exact ⟨⟨B, d, h1, e ▸ h2⟩, h3⟩
theorem run_cone2 (A : Option Addr) (c : Nat) (w : World) (hC : Cells w A [1, -1, 0, 0]) : Calls Try.prog 23 #[.agg #[(.int .i64 2), (.int .i64 (-1)), (.int .i64 1), (.int .i64 0), (.int .i64 0), (.int .i64 0)], .slice A 4 c] w fun r w' => (∃ B d, r = .returned (.tuple #[.slice B 4 d, (.int .i64 0)]) ∧ Cells w' B [2, -3, 2, -1]) ∧ Below w.heap.size w w' := by
  have e : soK 2 (-1) 1 0 0 0 (0, 0, 0, 0) [1, -1, 0, 0] 4 = [2, -3, 2, -1] := by decide
  refine (Run_ok 2 (-1) 1 0 0 0 [1, -1, 0, 0] A c w (by unfold bd15; omega) (by unfold bd15; omega) (by unfold bd15; omega) (by unfold bd15; omega) (by unfold bd15; omega) (by omega) (by intro x hx; simp at hx; omega) (by simp) hC (by decide) (by decide)).mono ?_
  rintro r w' ⟨⟨B, d, h1, -, h2⟩, h3⟩
  exact ⟨⟨B, d, h1, e ▸ h2⟩, h3⟩
theorem dec_cone (A B : Option Addr) (ca cb : Nat) (w : World) (hA : Cells w A [2, 1, 0, 1]) (hB : Cells w B [2, -3, 2, -1]) : Calls Try.prog 7 #[.slice A 4 ca, .slice B 4 cb, (.int .i64 2)] w fun r w' => (∃ X x, r = .returned (.tuple #[.slice X 3 x, (.int .i64 0)]) ∧ Cells w' X [2, -1, 1]) ∧ Below w.heap.size w w' := by
  have e1 : [2, 1, 0, 1] = conv [2, -1, 1] (gol 1).1 := by decide
  have e2 : [2, -3, 2, -1] = conv [2, -1, 1] (gol 1).2 := by decide
  have hg := golay (e := 1) (by decide) [2, -1, 1] (by simp)
  rw [← e1, ← e2] at hg
  refine (Deconvolve_ok [2, -1, 1] [2, 1, 0, 1] [2, -3, 2, -1] 1 (by decide) A B ca cb 3 4 w rfl (by omega) (by omega) (by decide) e1 e2 (by intro x hx; simp at hx; omega) (by intro x hx; simp at hx; omega) (by intro x hx; simp at hx; omega) hA hB (Lib.hid hg)).mono ?_
  rintro r w' ⟨u, rfl, ⟨X, x, rfl, h2, -⟩, h3⟩
  exact ⟨⟨X, x, rfl, h2⟩, h3⟩
theorem same_cone (l : List Int) (n : Nat) (hn : n = l.length) (h5 : n ≤ 1000) (A B : Option Addr) (ca cb : Nat) (w : World) (hA : Cells w A l) (hB : Cells w B l) : Calls Try.prog 8 #[.slice A n ca, .slice B n cb] w fun r w' => r = .returned (.bool true) ∧ Below w.heap.size w w' := by
  subst hn
  refine (sameInts_any A B l l ca cb w hA hB (by omega) (by omega)).mono ?_
  rintro r w' ⟨rfl, h⟩
  exact ⟨by simp, h⟩
set_option maxRecDepth 100000 in
set_option maxHeartbeats 8000000 in
theorem coneBooth_ok (w : World) : Calls Try.prog 5 #[] w fun r w' => r = .returned (.bool true) ∧ Below w.heap.size w w' := by
  have HR1 := Lib.hid (fun A c W h => run_cone1 A c W h)
  have HR2 := Lib.hid (fun A c W h => run_cone2 A c W h)
  have HDE := Lib.hid (fun A B ca cb W h1 h2 => dec_cone A B ca cb W h1 h2)
  have HSI := Lib.hid (fun l n hn h5 A B ca cb W h1 h2 => same_cone l n hn h5 A B ca cb W h1 h2)
  have HPA := Lib.hid (fun ub v0 v1 v2 v3 W h => pairs_ok ub v0 v1 v2 v3 W h)
  have HSP := Lib.hid (fun A B c d W h1 h2 => samePairs_two 0 2 1 3 A B c d W h1 h2)
  go_enter Try.func5, Try.ntmps5
  go_wp2_with (go_at_call 23; refine name_calls ?_; intro w1 e1; refine Hid.out ?_)
  unfold Hid
  have h1 : Below w.heap.size w w1 := by rw [e1]; (repeat (first | (with_reducible exact Below.refl _ _) | ((with_reducible refine Below.setCell ?_ ?_ _); rotate_left 1; focus (first | (simp; done) | (simp; omega) | (simp at *; omega))) | ((with_reducible refine Below.alloc ?_ ?_ _); rotate_left 1; focus (first | (simp; done) | (simp; omega) | (simp at *; omega))) | (with_reducible refine Below.drew ?_) | ((with_reducible refine Calm.step (by assumption) ?_ ?_); rotate_left 1; focus (first | (simp; done) | (simp; omega) | (simp at *; omega)))))
  have K1 : Blk w1 w.heap.size #[(.int .i64 2), (.int .i64 (-1)), (.int .i64 1), (.int .i64 0), (.int .i64 0), (.int .i64 0)] := by rw [e1]; (repeat (first | ((with_reducible refine Blk.at_ ?_); focus (first | rfl | (simp; done) | (simp; omega))) | (with_reducible refine Blk.alloc ?_ _) | (with_reducible refine Blk.below ?_ (by with_reducible assumption)) | (with_reducible refine Blk.drew ?_)))
  have K2 : Blk w1 (w.heap.size + 1) #[(.int .i64 1), (.int .i64 1), (.int .i64 0), (.int .i64 0)] := by rw [e1]; (repeat (first | ((with_reducible refine Blk.at_ ?_); focus (first | rfl | (simp; done) | (simp; omega))) | (with_reducible refine Blk.alloc ?_ _) | (with_reducible refine Blk.below ?_ (by with_reducible assumption)) | (with_reducible refine Blk.drew ?_)))
  have HB1 := Lib.hid h1
  have HK1 := Lib.hid K1
  clear e1 h1 K1
  refine (HR1.out _ _ _ (Cells.blk K2 rfl)).mono ?_
  rintro r w2 ⟨⟨A, ca, rfl, hA⟩, h2⟩
  have HB2 := Lib.hid (HB1.out.trans (h2.mono HB1.out.size))
  have HA2 := Lib.hid hA
  have K2' := HK1.out.below h2
  have HK2 := Lib.hid K2'
  obtain ⟨c0, c1, c2, c3, c4, c5, cl, cf⟩ := K2'.o6
  clear h2 hA K2 K2'
  go_wp2_with (go_at_call 23; refine name_calls ?_; intro w3 e3; refine Hid.out ?_)
  unfold Hid
  have h3 : Below w2.heap.size w2 w3 := by rw [e3]; (repeat (first | (with_reducible exact Below.refl _ _) | ((with_reducible refine Below.setCell ?_ ?_ _); rotate_left 1; focus (first | (simp; done) | (simp; omega) | (simp at *; omega))) | ((with_reducible refine Below.alloc ?_ ?_ _); rotate_left 1; focus (first | (simp; done) | (simp; omega) | (simp at *; omega))) | (with_reducible refine Below.drew ?_) | ((with_reducible refine Calm.step (by assumption) ?_ ?_); rotate_left 1; focus (first | (simp; done) | (simp; omega) | (simp at *; omega)))))
  have K3 : Blk w3 w2.heap.size #[(.int .i64 1), (.int .i64 (-1)), (.int .i64 0), (.int .i64 0)] := by rw [e3]; (repeat (first | ((with_reducible refine Blk.at_ ?_); focus (first | rfl | (simp; done) | (simp; omega))) | (with_reducible refine Blk.alloc ?_ _) | (with_reducible refine Blk.below ?_ (by with_reducible assumption)) | (with_reducible refine Blk.drew ?_)))
  have HB3 := Lib.hid (HB2.out.trans (h3.mono HB2.out.size))
  have HA3 := Lib.hid (HA2.out.below h3)
  clear e3 h3 c0 c1 c2 c3 c4 c5 cl cf
  refine (HR2.out _ _ _ (Cells.blk K3 rfl)).mono ?_
  rintro r w4 ⟨⟨B, cb, rfl, hB⟩, h4⟩
  have HB4 := Lib.hid (HB3.out.trans (h4.mono HB3.out.size))
  have HA4 := Lib.hid (HA3.out.below h4)
  have HC4 := Lib.hid hB
  clear h4 hB K3
  go_wp2_with (go_at_call 7; refine (HDE.out _ _ _ _ _ HA4.out HC4.out).mono ?_; rintro r w5 ⟨⟨X, cx, rfl, hX⟩, h5⟩; have HB5 := Lib.hid (HB4.out.trans (h5.mono HB4.out.size)); have HA5 := Lib.hid (HA4.out.below h5); have HC5 := Lib.hid (HC4.out.below h5); have HX5 := Lib.hid hX; clear h5 hX; refine Hid.out ?_)
  unfold Hid
  go_wp2_with (go_at_call 24; refine name_calls ?_; intro w6 e6; refine Hid.out ?_)
  unfold Hid
  have h6 : Below w5.heap.size w5 w6 := by rw [e6]; (repeat (first | (with_reducible exact Below.refl _ _) | ((with_reducible refine Below.setCell ?_ ?_ _); rotate_left 1; focus (first | (simp; done) | (simp; omega) | (simp at *; omega))) | ((with_reducible refine Below.alloc ?_ ?_ _); rotate_left 1; focus (first | (simp; done) | (simp; omega) | (simp at *; omega))) | (with_reducible refine Below.drew ?_) | ((with_reducible refine Calm.step (by assumption) ?_ ?_); rotate_left 1; focus (first | (simp; done) | (simp; omega) | (simp at *; omega)))))
  have HB6 := Lib.hid (HB5.out.trans (h6.mono HB5.out.size))
  have HA6 := Lib.hid (HA5.out.below h6)
  have HC6 := Lib.hid (HC5.out.below h6)
  have HX6 := Lib.hid (HX5.out.below h6)
  have q0 : Blk w6 w5.heap.size #[(.int .i64 5)] := by rw [e6]; (repeat (first | ((with_reducible refine Blk.at_ ?_); focus (first | rfl | (simp; done) | (simp; omega))) | (with_reducible refine Blk.alloc ?_ _) | (with_reducible refine Blk.below ?_ (by with_reducible assumption)) | (with_reducible refine Blk.drew ?_)))
  have q1 : Blk w6 (w5.heap.size + 1) #[(.int .i64 1)] := by rw [e6]; (repeat (first | ((with_reducible refine Blk.at_ ?_); focus (first | rfl | (simp; done) | (simp; omega))) | (with_reducible refine Blk.alloc ?_ _) | (with_reducible refine Blk.below ?_ (by with_reducible assumption)) | (with_reducible refine Blk.drew ?_)))
  have q2 : Blk w6 (w5.heap.size + 2) #[(.int .i64 4)] := by rw [e6]; (repeat (first | ((with_reducible refine Blk.at_ ?_); focus (first | rfl | (simp; done) | (simp; omega))) | (with_reducible refine Blk.alloc ?_ _) | (with_reducible refine Blk.below ?_ (by with_reducible assumption)) | (with_reducible refine Blk.drew ?_)))
  have q3 : Blk w6 (w5.heap.size + 3) #[(.int .i64 2)] := by rw [e6]; (repeat (first | ((with_reducible refine Blk.at_ ?_); focus (first | rfl | (simp; done) | (simp; omega))) | (with_reducible refine Blk.alloc ?_ _) | (with_reducible refine Blk.below ?_ (by with_reducible assumption)) | (with_reducible refine Blk.drew ?_)))
  have q4 : Blk w6 (w5.heap.size + 4) #[.string ⟨#[97]⟩, .slice (some ⟨w5.heap.size, 0, none⟩) 1 1, .string ⟨#[98]⟩, .slice (some ⟨w5.heap.size + 1, 0, none⟩) 1 1, .string ⟨#[99]⟩, .slice (some ⟨w5.heap.size + 2, 0, none⟩) 1 1, .string ⟨#[100]⟩, .slice (some ⟨w5.heap.size + 3, 0, none⟩) 1 1] := by rw [e6]; (repeat (first | ((with_reducible refine Blk.at_ ?_); focus (first | rfl | (simp; done) | (simp; omega))) | (with_reducible refine Blk.alloc ?_ _) | (with_reducible refine Blk.below ?_ (by with_reducible assumption)) | (with_reducible refine Blk.drew ?_)))
  clear e6 h6
  refine (HPA.out _ _ _ _ _ _ ⟨q4, q0, q1, q2, q3⟩).mono ?_
  rintro r w7 ⟨⟨Y, y, rfl, hY⟩, h7⟩
  have HB7 := Lib.hid (HB6.out.trans (h7.mono HB6.out.size))
  have HA7 := Lib.hid (HA6.out.below h7)
  have HC7 := Lib.hid (HC6.out.below h7)
  have HX7 := Lib.hid (HX6.out.below h7)
  have HY7 := Lib.hid hY
  clear h7 hY q0 q1 q2 q3 q4
  go_wp2_with (go_at_call 8; refine name_calls ?_; intro w8 e8; refine Hid.out ?_)
  unfold Hid
  have h8 : Below w7.heap.size w7 w8 := by rw [e8]; (repeat (first | (with_reducible exact Below.refl _ _) | ((with_reducible refine Below.setCell ?_ ?_ _); rotate_left 1; focus (first | (simp; done) | (simp; omega) | (simp at *; omega))) | ((with_reducible refine Below.alloc ?_ ?_ _); rotate_left 1; focus (first | (simp; done) | (simp; omega) | (simp at *; omega))) | (with_reducible refine Below.drew ?_) | ((with_reducible refine Calm.step (by assumption) ?_ ?_); rotate_left 1; focus (first | (simp; done) | (simp; omega) | (simp at *; omega)))))
  have K8 : Blk w8 w7.heap.size #[(.int .i64 2), (.int .i64 1), (.int .i64 0), (.int .i64 1)] := by rw [e8]; (repeat (first | ((with_reducible refine Blk.at_ ?_); focus (first | rfl | (simp; done) | (simp; omega))) | (with_reducible refine Blk.alloc ?_ _) | (with_reducible refine Blk.below ?_ (by with_reducible assumption)) | (with_reducible refine Blk.drew ?_)))
  have HB8 := Lib.hid (HB7.out.trans (h8.mono HB7.out.size))
  clear e8
  refine (HSI.out [2, 1, 0, 1] 4 rfl (by omega) _ _ _ _ _ (HA7.out.below h8) (Cells.blk K8 rfl)).mono ?_
  rintro r w9 ⟨rfl, h9⟩
  have HB9 := Lib.hid (HB8.out.trans (h9.mono HB8.out.size))
  have HC9 := Lib.hid ((HC7.out.below h8).below h9)
  have HX9 := Lib.hid ((HX7.out.below h8).below h9)
  have HY9 := Lib.hid ((HY7.out.below h8).below h9)
  clear h8 h9 K8
  go_wp2_with (go_at_call 8; refine name_calls ?_; intro w10 e10; refine Hid.out ?_)
  unfold Hid
  have h10 : Below w9.heap.size w9 w10 := by rw [e10]; (repeat (first | (with_reducible exact Below.refl _ _) | ((with_reducible refine Below.setCell ?_ ?_ _); rotate_left 1; focus (first | (simp; done) | (simp; omega) | (simp at *; omega))) | ((with_reducible refine Below.alloc ?_ ?_ _); rotate_left 1; focus (first | (simp; done) | (simp; omega) | (simp at *; omega))) | (with_reducible refine Below.drew ?_) | ((with_reducible refine Calm.step (by assumption) ?_ ?_); rotate_left 1; focus (first | (simp; done) | (simp; omega) | (simp at *; omega)))))
  have K10 : Blk w10 w9.heap.size #[(.int .i64 2), (.int .i64 (-3)), (.int .i64 2), (.int .i64 (-1))] := by rw [e10]; (repeat (first | ((with_reducible refine Blk.at_ ?_); focus (first | rfl | (simp; done) | (simp; omega))) | (with_reducible refine Blk.alloc ?_ _) | (with_reducible refine Blk.below ?_ (by with_reducible assumption)) | (with_reducible refine Blk.drew ?_)))
  have HB10 := Lib.hid (HB9.out.trans (h10.mono HB9.out.size))
  clear e10
  refine (HSI.out [2, -3, 2, -1] 4 rfl (by omega) _ _ _ _ _ (HC9.out.below h10) (Cells.blk K10 rfl)).mono ?_
  rintro r w11 ⟨rfl, h11⟩
  have HB11 := Lib.hid (HB10.out.trans (h11.mono HB10.out.size))
  have HX11 := Lib.hid ((HX9.out.below h10).below h11)
  have HY11 := Lib.hid ((HY9.out.below h10).below h11)
  clear h10 h11 K10
  go_wp2_with (go_at_call 8; refine name_calls ?_; intro w12 e12; refine Hid.out ?_)
  unfold Hid
  have h12 : Below w11.heap.size w11 w12 := by rw [e12]; (repeat (first | (with_reducible exact Below.refl _ _) | ((with_reducible refine Below.setCell ?_ ?_ _); rotate_left 1; focus (first | (simp; done) | (simp; omega) | (simp at *; omega))) | ((with_reducible refine Below.alloc ?_ ?_ _); rotate_left 1; focus (first | (simp; done) | (simp; omega) | (simp at *; omega))) | (with_reducible refine Below.drew ?_) | ((with_reducible refine Calm.step (by assumption) ?_ ?_); rotate_left 1; focus (first | (simp; done) | (simp; omega) | (simp at *; omega)))))
  have K12 : Blk w12 w11.heap.size #[(.int .i64 2), (.int .i64 (-1)), (.int .i64 1)] := by rw [e12]; (repeat (first | ((with_reducible refine Blk.at_ ?_); focus (first | rfl | (simp; done) | (simp; omega))) | (with_reducible refine Blk.alloc ?_ _) | (with_reducible refine Blk.below ?_ (by with_reducible assumption)) | (with_reducible refine Blk.drew ?_)))
  have HB12 := Lib.hid (HB11.out.trans (h12.mono HB11.out.size))
  clear e12
  refine (HSI.out [2, -1, 1] 3 rfl (by omega) _ _ _ _ _ (HX11.out.below h12) (Cells.blk K12 rfl)).mono ?_
  rintro r w13 ⟨rfl, h13⟩
  have HB13 := Lib.hid (HB12.out.trans (h13.mono HB12.out.size))
  have HY13 := Lib.hid ((HY11.out.below h12).below h13)
  clear h12 h13 K12
  go_wp2_with (go_at_call 25; refine name_calls ?_; intro w14 e14; refine Hid.out ?_)
  unfold Hid
  have h14 : Below w13.heap.size w13 w14 := by rw [e14]; (repeat (first | (with_reducible exact Below.refl _ _) | ((with_reducible refine Below.setCell ?_ ?_ _); rotate_left 1; focus (first | (simp; done) | (simp; omega) | (simp at *; omega))) | ((with_reducible refine Below.alloc ?_ ?_ _); rotate_left 1; focus (first | (simp; done) | (simp; omega) | (simp at *; omega))) | (with_reducible refine Below.drew ?_) | ((with_reducible refine Calm.step (by assumption) ?_ ?_); rotate_left 1; focus (first | (simp; done) | (simp; omega) | (simp at *; omega)))))
  have K14 : Blk w14 w13.heap.size #[(.int .i64 0), (.int .i64 2), (.int .i64 1), (.int .i64 3)] := by rw [e14]; (repeat (first | ((with_reducible refine Blk.at_ ?_); focus (first | rfl | (simp; done) | (simp; omega))) | (with_reducible refine Blk.alloc ?_ _) | (with_reducible refine Blk.below ?_ (by with_reducible assumption)) | (with_reducible refine Blk.drew ?_)))
  have HB14 := Lib.hid (HB13.out.trans (h14.mono HB13.out.size))
  clear e14
  refine (HSP.out _ _ _ _ _ (HY13.out.below h14) (Cells.blk K14 rfl)).mono ?_
  rintro r w15 ⟨rfl, h15⟩
  have HB15 := Lib.hid (HB14.out.trans (h15.mono HB14.out.size))
  clear h14 h15 K14
  go_wp2
  go_ret
  exact ⟨rfl, HB15.out⟩
end Go.Proofs.Ytamldoidalnloaa

/- The law of TopConeGated, plain: the room's response, its gate, its decay and its first reflection. -/
namespace Go.Proofs.Ytamldoidalnloaa
open Go.RowKit
open Calm (bcell Blk)
section
variable (h : List Int) (k : Int) (at' : Nat) (ha : h.length ≤ at')
include ha
end
end Go.Proofs.Ytamldoidalnloaa

/- TopConeGated's walk. -/
namespace Go.Proofs.Ytamldoidalnloaa
open Go.RowKit
open Calm (bcell Blk)
theorem own_empty (W : World) : (W.alloc (.cells #[] 3)).ownsRow W.heap.size 3 1 (.slice (some ⟨W.heap.size, 0, none⟩) 0 0) 0 [] := World.ownsRow_made W #[] 0 (Nat.le_refl _) (Nat.zero_le _) rfl
end Go.Proofs.Ytamldoidalnloaa

/- TopConeGated's walk. -/
namespace Go.Proofs.Ytamldoidalnloaa
open Go.RowKit
open Calm (bcell Blk)
/-- what the loops leave. -/
structure GatedEnd (h R Fr : List Int) (kf D E F : Int) (at' M : Nat) : Prop where
  hR : R.length = M
  hF : Fr.length = M
  r3 : ∀ x ∈ R, -300 ≤ x ∧ x ≤ 300
  lF : lvls Fr
  g : gateL R at' = Fr
  e : enF R - enF Fr = E
  d0 : (decL R).getD 0 0 = D + E
  da : (decL R).getD at' 0 = E
  bD : 0 ≤ D ∧ D ≤ 120000
  bE : 0 ≤ E ∧ E ≤ 1080000
  v : (F = -1 ∧ findV R Fr M = .tuple #[(.int .i64 0), (.int .i64 7)]) ∨ ∃ j : Nat, F = (j : Int) ∧ findV R Fr M = .tuple #[(.int .i64 ((j : Int))), (.int .i64 0)]
end Go.Proofs.Ytamldoidalnloaa

/- Zeros appended onto a row of one's own; coneTail. -/
namespace Go.Proofs.Ytamldoidalnloaa
open Go.RowKit
open Calm (bcell Blk)
theorem run_append_room_zeros (W : World) (ty : TypeId) (g n cap k : Nat) (cur : Array Value) (hg : W.heap[g]? = some (.cells cur 3 (0, 0))) (h0 : 0 < k) (hk : k ≤ 100000) (hroom : n + k ≤ cap) (hfit : n + k ≤ cur.size) :
    (Builtin.append_ #[22, 3] ty #[.slice (some ⟨g, 0, none⟩) n cap, (.int .i64 ((k : Int)))]).run Try.prog W = .ok (.slice (some ⟨g, 0, none⟩) (n + k) cap) (W.setRow g (cur.toList.take n ++ List.replicate k ((.int .i64 0) : Value) ++ cur.toList.drop (n + k)).toArray) := by
  obtain ⟨i0, hi, hz0, hz1, hz2⟩ := info_parts Try.infoI
  have hzc : (Builtin.zeroCells (Value.cells (.int .i64 0)) k).toList = List.replicate k ((.int .i64 0) : Value) := by
    apply List.ext_getElem?
    intro j
    by_cases hj : j < k <;> simp [Builtin.zeroCells, Value.cells, hj, Nat.mod_one]
  have hst := run_storeCells_at Try.prog g n 3 (List.replicate k ((.int .i64 0) : Value)) 0 cur W hg (by simpa using hfit) (fun u hu => by obtain ⟨_, rfl⟩ := List.mem_replicate.1 hu; rfl)
  simp only [Nat.add_zero, List.length_replicate] at hst
  have hk0 : k ≠ 0 := by omega
  have hw : IntKind.i64.wrap (k : Int) = k := by rw [IntKind.wrap_i64]; omega
  have hneg : ¬ ((k : Int) < 0) := by omega
  have h48i : ¬ (281474976710656 < (k : Int) * 8) := by omega
  have hu : Try.prog.underlying 22 = some (.slice 3) := Try.underlying22
  have hui : Try.prog.underlying 3 = some (.int .i64) := Try.underlying3
  simp [Builtin.append_, run_underlying hu, run_underlying hui, sizeOf, typeInfo, zeroValue, hi, hz0, hz1, hz2, asInt, asIntOf, hw, hneg, h48i, hroom, hk0, hzc, Addr.add_lit, hst]
theorem grow_zeros (W : World) (ty : TypeId) (base n cap k : Nat) (B : Option Addr) (xs : List Int) (hlx : xs.length = n) (hold : (Builtin.firstCells 1 n (.slice B n cap)).run Try.prog W.drew = .ok (xs.map (Value.int .i64)).toArray W.drew) (h0 : 0 < k) (hk : n + k ≤ 100000) (hg : cap < n + k) (hb : base ≤ W.heap.size) :
    ∃ v' W', (Builtin.append_ #[22, 3] ty #[.slice B n cap, (.int .i64 ((k : Int)))]).run Try.prog W = .ok v' W' ∧ W'.ownsRow base 3 1 v' (n + k) ((xs ++ List.replicate k 0).map (Value.int .i64)) ∧ Below W.heap.size W W' := by
  obtain ⟨i0, hi, hz0, hz1, hz2⟩ := info_parts Try.infoI
  have hge := grownCap_ge W (n + k) cap 3
  have hmx := grownCap_le_maxLen W (n + k) cap 3 (by unfold maxLen; omega)
  have hrun := Lib.run_append_grow_zeros (P := Try.prog) W 22 3 ty 3 i0 _ .i64 .i64 Try.underlying22 Try.underlying3 hi hz0 B n cap _ (by rw [hz1]; exact hold) k h0 (by rw [hz1]; decide) hg (by omega) (by rw [hz2]; omega) (by rw [hz2]; exact growslice_fits hg (by omega))
  obtain ⟨G, hG⟩ : ∃ G, G = grownCap W (n + k) cap 3 := ⟨_, rfl⟩
  rw [← hG] at hrun hge hmx
  have hzc : ∀ q, (Builtin.zeroCells (Value.cells (.int .i64 0)) q).toList = List.replicate q ((.int .i64 0) : Value) := fun q => by
    apply List.ext_getElem?
    intro j
    by_cases hj : j < q <;> simp [Builtin.zeroCells, Value.cells, hj, Nat.mod_one]
  have hzs : ∀ q, (Builtin.zeroCells (Value.cells (.int .i64 0)) q).size = q := fun q => by simp [Builtin.zeroCells, Value.cells]
  refine ⟨_, _, hrun, ⟨by simp [hlx], .inr ⟨W.heap.size, G, _, rfl, hb, heap_new (w := W.drew) rfl, hge, hmx, ?_, ?_⟩⟩, by (repeat (first | (with_reducible exact Below.refl _ _) | ((with_reducible refine Below.setCell ?_ ?_ _); rotate_left 1; focus (first | (simp; done) | (simp; omega) | (simp at *; omega))) | ((with_reducible refine Below.alloc ?_ ?_ _); rotate_left 1; focus (first | (simp; done) | (simp; omega) | (simp at *; omega))) | (with_reducible refine Below.drew ?_) | ((with_reducible refine Calm.step (by assumption) ?_ ?_); rotate_left 1; focus (first | (simp; done) | (simp; omega) | (simp at *; omega)))))⟩
  · simp only [Array.size_append, hzs, List.size_toArray, List.length_map, hlx, Nat.mul_one]
    omega
  · simp only [Array.toList_append, hzc, Nat.mul_one]
    rw [List.map_append, List.map_replicate]
    exact List.take_left' (by simp [hlx])
/-- zeros appended onto a row of one's own. -/
theorem append_own_zeros (W : World) (ty : TypeId) (base n k : Nat) (u : Value) (xs : List Int) (hown : W.ownsRow base 3 1 u n (xs.map (Value.int .i64))) (h0 : 0 < k) (hk : n + k ≤ 100000) (hb : base ≤ W.heap.size) :
    ∃ v' W', (Builtin.append_ #[22, 3] ty #[u, (.int .i64 ((k : Int)))]).run Try.prog W = .ok v' W' ∧ W'.ownsRow base 3 1 v' (n + k) ((xs ++ List.replicate k 0).map (Value.int .i64)) ∧ W.grownBy W' u.ownBlock := by
  obtain ⟨i0, hi, hz0, hz1, hz2⟩ := info_parts Try.infoI
  have hlx : xs.length = n := by have := hown.1; simpa using this
  rcases hown.2 with ⟨hu, hn0⟩ | ⟨g, cap, cur, hu, hbg, hg, hnc, hcm, hcs, htake⟩
  · subst hn0
    obtain ⟨v', W', r1, r2, r3⟩ := grow_zeros W ty base 0 0 k none xs hlx (by obtain rfl : xs = [] := List.eq_nil_of_length_eq_zero hlx; simp [Builtin.firstCells]) h0 hk (by omega) hb
    exact ⟨v', W', by rw [hu]; exact r1, r2, grownBy_below' r3 _⟩
  · by_cases hroom : n + k ≤ cap
    · have hrun := run_append_room_zeros W ty g n cap k cur hg h0 (by omega) hroom (by omega)
      have hh := setRow_heap W g cur (cur.toList.take n ++ List.replicate k ((.int .i64 0) : Value) ++ cur.toList.drop (n + k)).toArray 3 (0, 0) hg
      refine ⟨_, _, by rw [hu]; exact hrun, ⟨by simp [hlx], .inr ⟨g, cap, _, rfl, hbg, hh, hroom, hcm, by simp; omega, ?_⟩⟩, ?_⟩
      · have hx' : cur.toList.take n = xs.map (Value.int .i64) := by simpa using htake
        simp only [Nat.mul_one]
        rw [hx', List.map_append, List.map_replicate]
        exact List.take_left' (by simp [hlx])
      · rw [hu]
        exact ⟨rfl, rfl, rfl, by simp, fun q _ hq => setRow_other W g q _ (by simpa [Value.ownBlock, eq_comm] using hq)⟩
    · have hcell : ∀ j v, (xs.map (Value.int .i64))[j]? = some v → W.cell? ((⟨g, 0, none⟩ : Addr).add j) = some v := hown.cells (g := g) (by rw [hu]; rfl)
      obtain ⟨v', W', r1, r2, r3⟩ := grow_zeros W ty base n cap k (some ⟨g, 0, none⟩) xs hlx (run_firstCells_some (P := Try.prog) W.drew 1 n ⟨g, 0, none⟩ n cap (xs.map (Value.int .i64)) (by simp [hlx]) hcell) h0 hk (by omega) hb
      exact ⟨v', W', by rw [hu]; exact r1, r2, grownBy_below' r3 _⟩
theorem run_append_no_zeros (W : World) (ty : TypeId) (B : Option Addr) (n cap : Nat) (h : n ≤ cap) (hn : n ≤ 100000) :
    (Builtin.append_ #[22, 3] ty #[.slice B n cap, (.int .i64 (((0 : Nat) : Int)))]).run Try.prog W = .ok (.slice B n cap) W := by
  obtain ⟨i0, hi, hz0, hz1, hz2⟩ := info_parts Try.infoI
  have hw : IntKind.i64.wrap 0 = 0 := by rw [IntKind.wrap_i64]; rfl
  have hu : Try.prog.underlying 22 = some (.slice 3) := Try.underlying22
  have hui : Try.prog.underlying 3 = some (.int .i64) := Try.underlying3
  cases B <;> simp [Builtin.append_, run_underlying hu, run_underlying hui, sizeOf, typeInfo, zeroValue, hi, hz0, hz1, hz2, asInt, asIntOf, hw, h, storeCells]
theorem wpList_appOZ {w : World} {ops : Array Oper} {rest : List Oper} {o : Oper} {a : Act} {Q : Exit → Act → World → Prop} (hgd : o.guard = none) (s x : Operand)
    (ho : o.op = .call { callee := .builtin .append, args := #[s, x], argTypes := #[22, 3] }) (base : Nat) (u : Value) (n k : Nat) (xs : List Int) (hs : a.eval s = u) (hown : w.ownsRow base 3 1 u n (xs.map (Value.int .i64)))
    (hx : a.eval x = (.int .i64 ((k : Int)))) (h5 : n + k ≤ 100000) (hb : base ≤ w.heap.size)
    (h : ∀ v' w', w'.ownsRow base 3 1 v' (n + k) ((xs ++ List.replicate k 0).map (Value.int .i64)) → w.grownBy w' u.ownBlock → wpList Try.prog ops Q rest (a.put o.dst v') w') : wpList Try.prog ops Q (o :: rest) a w := by
  refine wpList_plain hgd fun K hK => ?_
  rcases Nat.eq_zero_or_pos k with h0 | h0
  · subst h0
    obtain ⟨B, d, hu, hnd⟩ : ∃ B d, u = .slice B n d ∧ n ≤ d := by
      rcases hown.2 with ⟨h1, h2⟩ | ⟨g, cap, cur, h1, _, _, h4, _⟩
      · exact ⟨none, 0, by rw [h1, h2], by omega⟩
      · exact ⟨_, cap, h1, h4⟩
    subst hu
    have hrun := run_append_no_zeros w o.type B n d hnd (by omega)
    unfold Oper.wp
    simp [execOp, ho, resolve, invoke, builtin, hs, hx] at hrun ⊢
    simp [hrun, Result.andThen]
    exact hK _ _ (h _ w (by simpa using hown) (World.grownBy.refl _ _))
  · obtain ⟨v', W', hrun, r1, r2⟩ := append_own_zeros w o.type base n k u xs hown h0 h5 hb
    unfold Oper.wp
    simp [execOp, ho, resolve, invoke, builtin, hs, hx, hrun, Result.andThen]
    exact hK _ _ (h v' W' r1 r2)
set_option maxRecDepth 100000 in
set_option maxHeartbeats 2000000 in
theorem coneTail_any (l : List Int) (A : Option Addr) (c N k : Nat) (w : World) (hN : N = l.length) (hN5 : N ≤ 5000) (hk : k ≤ 5000) (hC : Cells w A l) :
    Calls Try.prog 16 #[.slice A N c, (.int .i64 ((k : Int)))] w fun r w' => (∃ B d, r = .returned (.slice B (N + k) d) ∧ Cells w' B (l ++ List.replicate k 0) ∧ (∀ p, B = some p → w.heap.size ≤ p.block) ∧ N + k ≤ d) ∧ Below w.heap.size w w' := by
  have HC := Lib.hid hC
  have HN := Lib.hid hN
  clear hC hN
  go_enter Try.func16, Try.ntmps16
  go_wp2_with (at_builtin; refine name_list ?_; intro w1 e1; refine Hid.out ?_)
  unfold Hid
  have h1 : Below w.heap.size w w1 := by rw [e1]; exact bel
  have o1 : w1.ownsRow w.heap.size 3 1 (.slice (some ⟨w.heap.size, 0, none⟩) 0 0) 0 [] := by rw [e1]; exact own_empty _
  have HB1 := Lib.hid h1
  clear e1
  refine wpList_appC rfl _ _ rfl w.heap.size N c A l HN.out rfl rfl o1 (by omega) (HC.out.below h1) ?_
  intro X x w2 h2 o2
  have HO2 := Lib.hid o2
  have HB2 := Lib.hid (HB1.out.trans (h2.mono HB1.out.size))
  have hs2 := HB2.out.size
  clear h1 o1 h2 o2
  go_wp2_with (at_builtin; refine wpList_appOZ rfl _ _ rfl w.heap.size _ N k l rfl HO2.out rfl (by omega) hs2 ?_)
  intro v' w3 o3 g3
  have HB3 := Lib.hid (HB2.out.grown g3 hs2 (fun q hq => (HO2.out.lt q hq).1))
  have o3 : w3.ownsRow w.heap.size 3 1 v' (N + k) ((l ++ List.replicate k 0).map (Value.int .i64)) := by simpa using o3
  obtain ⟨B, d, rfl, hge, hcc⟩ := own_ints (zs := l ++ List.replicate k 0) o3 (by rw [List.length_append, List.length_replicate, ← HN.out])
  have HR := Lib.hid (own_room o3).1
  have HGE := Lib.hid hge
  have HCC := Lib.hid hcc
  clear o3 g3 hge hcc
  go_wp2
  go_ret
  exact ⟨⟨B, d, rfl, HCC.out, HGE.out, HR.out⟩, HB3.out⟩
end Go.Proofs.Ytamldoidalnloaa

/- signal: the length of a convolution. -/
namespace Go.Proofs.Ytamldoidalnloaa
open Go.RowKit
open Calm (bcell Blk)
def lenC (N M : Nat) : Nat := if N = 0 ∨ M = 0 then 0 else N + M - 1
set_option maxRecDepth 100000 in
theorem gLength_any (A B : Option Addr) (N M c d : Nat) (w : World) (hN : N ≤ 100000) (hM : M ≤ 100000) : Calls Try.prog 76 #[.slice A N c, .slice B M d] w fun r w' => r = .returned (.int .i64 ((lenC N M : Int))) ∧ w = w' := by
  rcases Nat.eq_zero_or_pos N with rfl | h1
  · have e : lenC 0 M = 0 := if_pos (.inl rfl)
    rw [e]
    go_enter Try.func76, Try.ntmps76
    go_wp2
    go_ret
    exact ⟨rfl, rfl⟩
  · have n1 : ((N : Int) == 0) = false := beq_eq_false_iff_ne.2 (by omega)
    rcases Nat.eq_zero_or_pos M with rfl | h2
    · have e : lenC N 0 = 0 := if_pos (.inr rfl)
      rw [e]
      go_enter Try.func76, Try.ntmps76
      go_wp2
      go_ret
      exact ⟨rfl, rfl⟩
    · have n2 : ((M : Int) == 0) = false := beq_eq_false_iff_ne.2 (by omega)
      have e : Hid ((lenC N M : Int) = (N : Int) + (M : Int) - 1) := Lib.hid (by unfold lenC; rw [if_neg (by omega)]; omega)
      go_enter Try.func76, Try.ntmps76
      go_wp2
      go_ret
      exact ⟨by rw [e.out]; rfl, rfl⟩
end Go.Proofs.Ytamldoidalnloaa

/- coneSections: sections without taps of the output. -/
namespace Go.Proofs.Ytamldoidalnloaa
open Go.RowKit
open Calm (bcell Blk)
def secC (s : Sec) : List Value := [(.int .i64 (s.b0)), (.int .i64 (s.b1)), (.int .i64 (s.b2)), (.int .i64 (s.a1)), (.int .i64 (s.a2)), (.int .i64 (s.sh))]
def flatS (l : List Sec) : List Value := l.flatMap secC
theorem flatS_at : ∀ (xs : List Sec) (k : Nat), k < xs.length →
    (flatS xs)[k * 6]? = some (.int .i64 ((xs.getD k Sec0).b0)) ∧ (flatS xs)[k * 6 + 1]? = some (.int .i64 ((xs.getD k Sec0).b1)) ∧ (flatS xs)[k * 6 + 2]? = some (.int .i64 ((xs.getD k Sec0).b2)) ∧
    (flatS xs)[k * 6 + 3]? = some (.int .i64 ((xs.getD k Sec0).a1)) ∧ (flatS xs)[k * 6 + 4]? = some (.int .i64 ((xs.getD k Sec0).a2)) ∧ (flatS xs)[k * 6 + 5]? = some (.int .i64 ((xs.getD k Sec0).sh))
  | [], k, h => by simp at h
  | z :: zs, 0, h => by simp [flatS, secC]
  | z :: zs, k + 1, h => by
    have := flatS_at zs k (by simpa using h)
    rw [show (k + 1) * 6 = k * 6 + 6 by omega, show k * 6 + 6 + 1 = (k * 6 + 1) + 6 by omega, show k * 6 + 6 + 2 = (k * 6 + 2) + 6 by omega, show k * 6 + 6 + 3 = (k * 6 + 3) + 6 by omega, show k * 6 + 6 + 4 = (k * 6 + 4) + 6 by omega, show k * 6 + 6 + 5 = (k * 6 + 5) + 6 by omega]
    simpa [flatS, secC] using this
theorem own_secs {W : World} {base n : Nat} {e : TypeId} {v : Value} {xs : List Sec} (h : W.ownsRow base e 6 v n (flatS xs)) (hn : n = xs.length) : ∃ A c, v = .slice A n c ∧ (∀ p, A = some p → base ≤ p.block) ∧ SCells W A xs := by
  rcases h.2 with ⟨h1, h2⟩ | ⟨g, cap, cur, h1, h2, h3, h4, h5, h6, h7⟩
  · exact ⟨none, 0, by rw [h1, h2], by simp, fun h0 => by omega⟩
  · refine ⟨some ⟨g, 0, none⟩, cap, h1, by rintro p ⟨⟩; exact h2, fun h0 => ⟨g, 0, rfl, (Array.getElem?_eq_some_iff.1 h3).1, fun k hk => ?_⟩⟩
    obtain ⟨f1, f2, f3, f4, f5, f6⟩ := flatS_at xs k hk
    have look : ∀ j v, (flatS xs)[j]? = some v → W.cell? ⟨g, j, none⟩ = some v := by
      intro j v hj
      rw [cell_of_row W g j cur _ _ h3]
      rw [← h7, List.getElem?_take] at hj
      split at hj
      · rw [← hj]; simp
      · cases hj
    simp only [Nat.zero_add]
    exact ⟨look _ _ f1, look _ _ f2, look _ _ f3, look _ _ f4, look _ _ f5, look _ _ f6⟩
theorem take_flatS {zs : List Sec} {k : Nat} (hk : k < zs.length) : flatS (zs.take (k + 1)) = flatS (zs.take k) ++ secC (zs.getD k Sec0) := by
  unfold flatS
  rw [List.take_succ_eq_append_getElem hk, List.flatMap_append, List.getD_eq_getElem?_getD, List.getElem?_eq_getElem hk]
  rfl
theorem Try.infoSec : (Try.prog.info? 40).map (fun i => (i.zero, i.size, i.bytes)) = some (some (.agg #[.int .i64 0, .int .i64 0, .int .i64 0, .int .i64 0, .int .i64 0, .int .i64 0]), 6, 48) := by kernel_rfl

/-- a section's taps modulo 5. -/
def conS (s : Sec) : Sec := { b0 := s.b0.tmod 5, b1 := s.b1.tmod 5, b2 := s.b2.tmod 5, a1 := 0, a2 := 0, sh := 0 }
set_option maxRecDepth 100000 in
set_option maxHeartbeats 4000000 in
theorem coneSections_any (l : List Sec) (A : Option Addr) (c N : Nat) (w : World) (hN : N = l.length) (hN5 : N ≤ 100) (hC : SCells w A l) :
    Calls Try.prog 12 #[.slice A N c] w fun r w' => ∃ v, r = .returned v ∧ w'.ownsRow w.heap.size 40 6 v N (flatS (l.map conS)) ∧ Below w.heap.size w w' := by
  obtain ⟨i0, hii, hz0, hz1, hz2⟩ := info_parts Try.infoSec
  have HC := Lib.hid hC
  have HN := Lib.hid hN
  have HLZ := Lib.hid (show N = (l.map conS).length by rw [List.length_map]; exact hN)
  clear hC hN
  go_enter Try.func12, Try.ntmps12
  go_wp2
  go_loopw [3, 8] (fun v z wr => ∃ k : Nat, k ≤ N ∧ z = (.int .i64 ((k : Int))) ∧ wr.ownsRow w.heap.size 40 6 v k (flatS ((l.map conS).take k)) ∧ Below w.heap.size w wr) (fun _ z _ => N - (intOf z).toNat)
  case atStart => exact ⟨0, Nat.zero_le _, rfl, World.ownsRow_nil _ _ _ _, Below.refl _ _⟩
  case round =>
    obtain ⟨k, hk, rfl, ho, hb⟩ := hrel
    have HO := Lib.hid ho
    have HB := Lib.hid hb
    by_cases hlt : k < N
    · have hkl : k < l.length := by rw [← HN.out]; exact hlt
      obtain ⟨g, o, rfl, hgl, hcc⟩ := (HC.out.below hb) (by omega)
      obtain ⟨x0, x1, x2, x3, x4, x5⟩ := hcc k hkl
      have HT : Hid (flatS ((l.map conS).take (k + 1)) = flatS ((l.map conS).take k) ++ secC (conS (l.getD k Sec0))) := Lib.hid (by
        rw [take_flatS (by rw [List.length_map]; exact hkl)]
        congr 2
        simp [List.getD_eq_getElem?_getD, hkl])
      obtain ⟨s, hs⟩ : ∃ s, s = l.getD k Sec0 := ⟨_, rfl⟩
      rw [← hs] at x0 x1 x2 x3 x4 x5 HT
      clear hcc ho hb hkl hs
      go_wp2_with (at_builtin; refine name_list ?_; intro w4 e4; refine Hid.out ?_)
      unfold Hid
      have h4 : Below wr.heap.size wr w4 := by rw [e4]; exact bel
      have K4 : Blk w4 (wr.heap.size + 1) (secC (conS s)).toArray := by rw [e4]; show Blk _ _ #[(.int .i64 (s.b0.tmod 5)), (.int .i64 (s.b1.tmod 5)), (.int .i64 (s.b2.tmod 5)), (.int .i64 0), (.int .i64 0), (.int .i64 0)]; (repeat (first | ((with_reducible refine Blk.at_ ?_); focus (first | rfl | (simp; done) | (simp; omega))) | (with_reducible refine Blk.alloc ?_ _) | (with_reducible refine Blk.below ?_ (by with_reducible assumption)) | (with_reducible refine Blk.drew ?_)))
      have HO4 := Lib.hid (ownsRow_below HO.out h4)
      have HB4 := Lib.hid (HB.out.trans (h4.mono HB.out.size))
      have hs4 := HB4.out.size
      clear e4 h4 x0 x1 x2 x3 x4 x5
      refine wpList_append_own w4 rfl _ _ 37 rfl w.heap.size 40 i0 _ 6 48 Try.underlying37 hii hz0 hz1 hz2 rfl (by decide) _ k _ rfl HO4.out ⟨wr.heap.size + 1, 0, none⟩ 1 1 (secC (conS s)) rfl rfl (fun j v hj => ?_) (fun u hu => ?_) (by unfold maxLen; omega) (by omega) hs4 ?_
      · have h9 := K4.c j
        have h8 : ((⟨wr.heap.size + 1, 0, none⟩ : Addr).add j) = ⟨wr.heap.size + 1, j, none⟩ := by
          unfold Addr.add
          by_cases hj0 : j = 0 <;> simp [hj0]
        rw [h8, h9, List.getElem?_toArray]
        exact hj
      · simp [secC, conS] at hu
        rcases hu with rfl | rfl | rfl | rfl <;> rfl
      intro v' w5 hown hgrow _
      have HB5 := Lib.hid (HB4.out.grown hgrow hs4 (fun q hq => (HO4.out.lt q hq).1))
      have HO5 := Lib.hid hown
      clear hown hgrow K4
      go_wp2
      go_roundw
      case rel => exact ⟨k + 1, by omega, by go_num, by rw [HT.out]; exact HO5.out, HB5.out⟩
      case measure => simp [intOf]; omega
    · obtain rfl : k = N := by omega
      have e : (l.map conS).take k = l.map conS := by rw [HLZ.out]; exact List.take_length
      rw [e] at ho
      have HO9 := Lib.hid ho
      clear ho hb e
      go_wp2
      go_ret
      exact ⟨_, rfl, HO9.out, HB.out⟩
end Go.Proofs.Ytamldoidalnloaa

/- A section without taps of the output, plain: what it answers. -/
namespace Go.Proofs.Ytamldoidalnloaa
/-- the element d back from k, 0 ahead of the start. -/
def bk (xs : List Int) (k d : Nat) : Int := if d ≤ k then xs.getD (k - d) 0 else 0
theorem ssAt_x (b0 b1 b2 a1 a2 sh : Int) (xs : List Int) : ∀ k, (ssAt b0 b1 b2 a1 a2 sh (0, 0, 0, 0) xs k).1 = bk xs k 1 ∧ (ssAt b0 b1 b2 a1 a2 sh (0, 0, 0, 0) xs k).2.1 = bk xs k 2
  | 0 => ⟨rfl, rfl⟩
  | k + 1 => by
    obtain ⟨h1, h2⟩ := ssAt_x b0 b1 b2 a1 a2 sh xs k
    refine ⟨?_, ?_⟩
    · show xs.getD k 0 = bk xs (k + 1) 1
      unfold bk
      rw [if_pos (by omega), Nat.add_sub_cancel]
    · show (ssAt b0 b1 b2 a1 a2 sh (0, 0, 0, 0) xs k).1 = bk xs (k + 1) 2
      rw [h1]
      unfold bk
      by_cases h : 1 ≤ k
      · rw [if_pos h, if_pos (by omega)]
        congr 1
      · rw [if_neg h, if_neg (by omega)]
theorem fir_at (b0 b1 b2 : Int) (xs : List Int) (k : Nat) (h : bd15 (b0 * bk xs k 0 + b1 * bk xs k 1 + b2 * bk xs k 2)) :
    soAt b0 b1 b2 0 0 0 (0, 0, 0, 0) xs k = b0 * bk xs k 0 + b1 * bk xs k 1 + b2 * bk xs k 2 := by
  obtain ⟨h1, h2⟩ := ssAt_x b0 b1 b2 0 0 0 xs k
  have h3 : xs.getD k 0 = bk xs k 0 := by unfold bk; rw [if_pos (Nat.zero_le _), Nat.sub_zero]
  have e : soAt b0 b1 b2 0 0 0 (0, 0, 0, 0) xs k = limF (rawF b0 b1 b2 0 0 0 (bk xs k 1) (bk xs k 2) (ssAt b0 b1 b2 0 0 0 (0, 0, 0, 0) xs k).2.2.1 (ssAt b0 b1 b2 0 0 0 (0, 0, 0, 0) xs k).2.2.2 (bk xs k 0)) := by
    show outS b0 b1 b2 0 0 0 (ssAt b0 b1 b2 0 0 0 (0, 0, 0, 0) xs k).1 (ssAt b0 b1 b2 0 0 0 (0, 0, 0, 0) xs k).2.1 _ _ (xs.getD k 0) = _
    rw [h1, h2, h3]
    rfl
  have r : ∀ y1 y2 : Int, rawF b0 b1 b2 0 0 0 (bk xs k 1) (bk xs k 2) y1 y2 (bk xs k 0) = b0 * bk xs k 0 + b1 * bk xs k 1 + b2 * bk xs k 2 := fun y1 y2 => by
    unfold rawF
    simp
  rw [e, r]
  exact limF_in h
theorem fir_cv (b0 b1 b2 : Int) (xs : List Int) (k : Nat) : cvAt [b0, b1, b2] xs k 3 = b0 * bk xs k 0 + b1 * bk xs k 1 + b2 * bk xs k 2 := by
  simp only [cvAt, bk, List.getD_cons_zero, List.getD_cons_succ, Int.zero_add]
  by_cases h1 : 1 ≤ k <;> by_cases h2 : 2 ≤ k <;> simp [h1, h2]
end Go.Proofs.Ytamldoidalnloaa

/- Convolutions as products of sequences of numbers, plain: the order does not matter, nor the brackets. -/
namespace Go.Proofs.Ytamldoidalnloaa
def gd (l : List Int) (k : Nat) : Int := l.getD k 0
theorem gd_out {l : List Int} {k : Nat} (h : l.length ≤ k) : gd l k = 0 := by
  unfold gd
  rw [List.getD_eq_getElem?_getD, List.getElem?_eq_none h]
  rfl
theorem gd_ext {a b : List Int} (hl : a.length = b.length) (h : ∀ k, k < a.length → gd a k = gd b k) : a = b := by
  apply List.ext_getElem? 
  intro k
  rcases Nat.lt_or_ge k a.length with hk | hk
  · have := h k hk
    unfold gd at this
    rw [List.getD_eq_getElem?_getD, List.getD_eq_getElem?_getD, List.getElem?_eq_getElem hk, List.getElem?_eq_getElem (by omega)] at this
    rw [List.getElem?_eq_getElem hk, List.getElem?_eq_getElem (by omega)]
    exact congrArg some this
  · rw [List.getElem?_eq_none hk, List.getElem?_eq_none (by omega)]
theorem gd_append {a b : List Int} (k : Nat) : gd (a ++ b) k = if k < a.length then gd a k else gd b (k - a.length) := by
  unfold gd
  rw [List.getD_eq_getElem?_getD, List.getD_eq_getElem?_getD, List.getD_eq_getElem?_getD, List.getElem?_append]
  split <;> rfl
theorem gd_zeros (n k : Nat) : gd (List.replicate n 0) k = 0 := by
  unfold gd
  rw [List.getD_eq_getElem?_getD, List.getElem?_replicate]
  split <;> rfl
theorem gd_pad (a : List Int) (n k : Nat) : gd (a ++ List.replicate n 0) k = gd a k := by
  rw [gd_append, gd_zeros]
  split
  · rfl
  · exact (gd_out (by omega)).symm
theorem sig_more {f : Nat → Int} {n : Nat} : ∀ {d : Nat}, (∀ i, n ≤ i → i < n + d → f i = 0) → sig (n + d) f = sig n f
  | 0, _ => rfl
  | d + 1, h => by
    rw [← Nat.add_assoc]
    simp only [sig]
    rw [sig_more (d := d) (fun i q1 q2 => h i q1 (by omega)), h (n + d) (by omega) (by omega)]
    simp
theorem sig_head (f : Nat → Int) : ∀ n : Nat, sig (n + 1) f = f 0 + sig n (fun i => f (i + 1))
  | 0 => by simp [sig]
  | n + 1 => by
    have := sig_head f n
    rw [sig, this, sig]
    omega
theorem sig_rev (f : Nat → Int) : ∀ n : Nat, sig (n + 1) (fun m => f (n - m)) = sig (n + 1) f
  | 0 => rfl
  | n + 1 => by
    have h := sig_rev (fun i => f (i + 1)) n
    rw [sig, sig_head f (n + 1), ← h, Nat.sub_self, Int.add_comm]
    congr 1
    exact sig_congr (fun i hi => by rw [show n + 1 - i = n - i + 1 by omega])
theorem sig_shift (g : Nat → Int) (m : Nat) : ∀ n : Nat, sig (m + n) (fun k => if m ≤ k then g (k - m) else 0) = sig n g
  | 0 => by
    refine (sig_congr (g := fun _ => 0) (fun i hi => ?_)).trans (sig_zero _)
    rw [if_neg (by omega)]
  | n + 1 => by
    rw [← Nat.add_assoc, sig, sig, sig_shift g m n, if_pos (by omega), Nat.add_sub_cancel_left]
/-- the product of two sequences. -/
def cp (F G : Nat → Int) (t : Nat) : Int := sig (t + 1) (fun m => F m * G (t - m))
theorem cp_comm (F G : Nat → Int) (t : Nat) : cp F G t = cp G F t := by
  unfold cp
  rw [← sig_rev]
  exact sig_congr (fun m hm => by rw [show t - (t - m) = m by omega, Int.mul_comm])
theorem cp_assoc (F G H : Nat → Int) (t : Nat) : cp (cp F G) H t = cp F (cp G H) t := by
  have e1 : cp (cp F G) H t = sig (t + 1) (fun k => sig (t + 1) (fun m => if m ≤ k then F m * (G (k - m) * H (t - k)) else 0)) := by
    refine sig_congr (fun k hk => ?_)
    have e : sig (t + 1) (fun m => if m ≤ k then F m * (G (k - m) * H (t - k)) else 0) = sig (k + 1) (fun m => if m ≤ k then F m * (G (k - m) * H (t - k)) else 0) := by
      have := sig_more (f := fun m => if m ≤ k then F m * (G (k - m) * H (t - k)) else 0) (n := k + 1) (d := t - k) (fun i q1 q2 => if_neg (by omega))
      rwa [show k + 1 + (t - k) = t + 1 by omega] at this
    rw [e, Int.mul_comm, cp, sig_mul]
    refine sig_congr (fun m hm => ?_)
    rw [if_pos (by omega), Int.mul_comm, Int.mul_assoc]
  rw [e1, sig_comm]
  refine sig_congr (fun m hm => ?_)
  have e2 : sig (t + 1) (fun k => if m ≤ k then F m * (G (k - m) * H (t - k)) else 0) = sig (m + (t - m + 1)) (fun k => if m ≤ k then (fun j => F m * (G j * H (t - m - j))) (k - m) else 0) := by
    rw [show m + (t - m + 1) = t + 1 by omega]
    refine sig_congr (fun k hk => ?_)
    by_cases h : m ≤ k
    · rw [if_pos h, if_pos h]
      simp only
      rw [show t - m - (k - m) = t - k by omega]
    · rw [if_neg h, if_neg h]
  rw [e2, sig_shift (fun j => F m * (G j * H (t - m - j))) m (t - m + 1), cp, sig_mul]
theorem cvAt_cp (h p : List Int) (t : Nat) : cvAt h p t h.length = cp (gd h) (gd p) t := by
  rw [cvAt_sig]
  have a1 : sig (h.length + (t + 1)) (fun m => h.getD m 0 * pz p t m) = sig h.length (fun m => h.getD m 0 * pz p t m) := sig_more (fun i q1 q2 => by
    have := gd_out (l := h) q1
    unfold gd at this
    rw [this, Int.zero_mul])
  have a2 : sig (t + 1 + h.length) (fun m => h.getD m 0 * pz p t m) = sig (t + 1) (fun m => h.getD m 0 * pz p t m) := sig_more (fun i q1 q2 => by
    unfold pz
    rw [if_neg (by omega), Int.mul_zero])
  rw [← a1, Nat.add_comm, a2]
  refine sig_congr (fun m hm => ?_)
  unfold pz gd
  rw [if_pos (by omega)]
theorem convL {h p : List Int} (h0 : 0 < h.length) (p0 : 0 < p.length) : (conv h p).length = h.length + p.length - 1 := by
  unfold conv
  rw [if_neg (by omega)]
  simp
theorem conv_nil {h p : List Int} (h0 : h.length = 0 ∨ p.length = 0) : conv h p = [] := by
  unfold conv
  rw [if_pos h0]
theorem conv_gd (h p : List Int) (t : Nat) : gd (conv h p) t = cp (gd h) (gd p) t := by
  by_cases h0 : h.length = 0 ∨ p.length = 0
  · rw [conv_nil h0]
    refine Eq.symm (Eq.trans (sig_congr (g := fun _ => 0) (fun m _ => ?_)) (sig_zero _))
    rcases h0 with h0 | h0
    · rw [gd_out (l := h) (by omega), Int.zero_mul]
    · rw [gd_out (l := p) (by omega), Int.mul_zero]
  · rcases Nat.lt_or_ge t (h.length + p.length - 1) with ht | ht
    · rw [← cvAt_cp]
      exact conv_get ht (by omega) (by omega)
    · rw [gd_out (by rw [convL (by omega) (by omega)]; exact ht)]
      refine Eq.symm (Eq.trans (sig_congr (g := fun _ => 0) (fun m _ => ?_)) (sig_zero _))
      rcases Nat.lt_or_ge m h.length with hm | hm
      · rw [gd_out (l := p) (by omega), Int.mul_zero]
      · rw [gd_out (l := h) hm, Int.zero_mul]
theorem conv_gd' (h p : List Int) : gd (conv h p) = cp (gd h) (gd p) := funext (conv_gd h p)
theorem conv_comm (h p : List Int) : conv h p = conv p h := by
  by_cases h0 : h.length = 0 ∨ p.length = 0
  · rw [conv_nil h0, conv_nil h0.symm]
  · refine gd_ext (by rw [convL (by omega) (by omega), convL (by omega) (by omega)]; omega) (fun k _ => ?_)
    rw [conv_gd, conv_gd, cp_comm]
theorem conv_assoc {a b c : List Int} (a0 : 0 < a.length) (b0 : 0 < b.length) (c0 : 0 < c.length) : conv (conv a b) c = conv a (conv b c) := by
  have l1 := convL a0 b0
  have l2 := convL b0 c0
  have l3 : 0 < (conv a b).length := by omega
  have l4 : 0 < (conv b c).length := by omega
  refine gd_ext (by rw [convL l3 c0, convL a0 l4]; omega) (fun k _ => ?_)
  rw [conv_gd, conv_gd, conv_gd', conv_gd', cp_assoc]
theorem conv_one (a : List Int) (a0 : 0 < a.length) : conv [1] a = a := by
  refine gd_ext (by rw [convL (by decide) a0]; simp) (fun k _ => ?_)
  rw [conv_gd, ← cvAt_cp]
  show (0 : Int) + (if 0 ≤ k then [(1 : Int)].getD 0 0 * a.getD (k - 0) 0 else 0) = gd a k
  rw [if_pos (Nat.zero_le _)]
  simp [gd]
end Go.Proofs.Ytamldoidalnloaa

/- A cascade of sections without taps of the output is the convolution of their taps, plain. -/
namespace Go.Proofs.Ytamldoidalnloaa
def mB (l : List Int) (B : Int) : Prop := ∀ k, -B ≤ gd l k ∧ gd l k ≤ B
theorem mB.of {l : List Int} {B : Int} (hB : 0 ≤ B) (h : ∀ x ∈ l, -B ≤ x ∧ x ≤ B) : mB l B := fun k => by
  rcases Nat.lt_or_ge k l.length with hk | hk
  · unfold gd
    rw [List.getD_eq_getElem?_getD, List.getElem?_eq_getElem hk]
    exact h _ (List.getElem_mem hk)
  · rw [gd_out hk]; omega
theorem mB.mem {l : List Int} {B : Int} (h : mB l B) : ∀ x ∈ l, -B ≤ x ∧ x ≤ B := fun x hx => by
  obtain ⟨k, hk, rfl⟩ := List.getElem_of_mem hx
  have := h k
  unfold gd at this
  rwa [List.getD_eq_getElem?_getD, List.getElem?_eq_getElem hk] at this
theorem mB.pad {l : List Int} {B : Int} (h : mB l B) (n : Nat) : mB (l ++ List.replicate n 0) B := fun k => by rw [gd_pad]; exact h k
theorem mB.le {l : List Int} {B C : Int} (h : mB l B) (hc : B ≤ C) : mB l C := fun k => by have := h k; omega
theorem mB.lvls {l : List Int} {B : Int} (h : mB l B) (hB : B ≤ 1048576) : lvls l := fun x hx => by have := h.mem x hx; omega
/-- a tap of the input. -/
def tp4 (b : Int) : Prop := -4 ≤ b ∧ b ≤ 4
theorem tp4_mul {b v B : Int} (hb : tp4 b) (hv : -B ≤ v ∧ v ≤ B) : -(4 * B) ≤ b * v ∧ b * v ≤ 4 * B := by
  unfold tp4 at hb
  have : b = -4 ∨ b = -3 ∨ b = -2 ∨ b = -1 ∨ b = 0 ∨ b = 1 ∨ b = 2 ∨ b = 3 ∨ b = 4 := by omega
  rcases this with rfl | rfl | rfl | rfl | rfl | rfl | rfl | rfl | rfl <;> omega
theorem bk_bd {l : List Int} {B : Int} (hB : 0 ≤ B) (h : mB l B) (k d : Nat) : -B ≤ bk l k d ∧ bk l k d ≤ B := by
  unfold bk
  split
  · exact h (k - d)
  · omega
theorem fir_gd (b0 b1 b2 : Int) (xs : List Int) (k : Nat) : gd (conv [b0, b1, b2] xs) k = b0 * bk xs k 0 + b1 * bk xs k 1 + b2 * bk xs k 2 := by
  rw [conv_gd, ← cvAt_cp, ← fir_cv]
  rfl
theorem fir_mB {b0 b1 b2 : Int} {xs : List Int} {B : Int} (h0 : tp4 b0) (h1 : tp4 b1) (h2 : tp4 b2) (hB : 0 ≤ B) (hx : mB xs B) : mB (conv [b0, b1, b2] xs) (12 * B) := fun k => by
  rw [fir_gd]
  have := tp4_mul h0 (bk_bd hB hx k 0)
  have := tp4_mul h1 (bk_bd hB hx k 1)
  have := tp4_mul h2 (bk_bd hB hx k 2)
  omega
/-- a section without taps of the output, and without rounding. -/
structure FirS (s : Sec) : Prop where
  t0 : tp4 s.b0
  t1 : tp4 s.b1
  t2 : tp4 s.b2
  a1 : s.a1 = 0
  a2 : s.a2 = 0
  sh : s.sh = 0
def tapL (s : Sec) : List Int := [s.b0, s.b1, s.b2]
theorem tmod5 (x : Int) : tp4 (x.tmod 5) := by
  have h2 : x.tmod 5 < 5 := Int.tmod_lt_of_pos x (by decide)
  have h3 : -5 < x.tmod 5 := by
    have := Int.tmod_lt_of_pos (-x) (show (0 : Int) < 5 by decide)
    rw [Int.neg_tmod] at this
    omega
  unfold tp4
  omega
theorem conS_fir (s : Sec) : FirS (conS s) := ⟨tmod5 _, tmod5 _, tmod5 _, rfl, rfl, rfl⟩
theorem sec0_fir : FirS Sec0 := ⟨by unfold tp4 Sec0; decide, by unfold tp4 Sec0; decide, by unfold tp4 Sec0; decide, rfl, rfl, rfl⟩
def FirL (l : List Sec) : Prop := ∀ s ∈ l, FirS s
theorem FirL.get {l : List Sec} (h : FirL l) (k : Nat) : FirS (l.getD k Sec0) := by
  rcases Nat.lt_or_ge k l.length with hk | hk
  · rw [List.getD_eq_getElem?_getD, List.getElem?_eq_getElem hk]
    exact h _ (List.getElem_mem hk)
  · rw [List.getD_eq_getElem?_getD, List.getElem?_eq_none hk]
    exact sec0_fir
theorem FirS.out {s : Sec} (h : FirS s) {x : List Int} {B : Int} (hB : 0 ≤ B) (hB2 : 12 * B ≤ 32767) (hx : mB x B) (x0 : 0 < x.length) (j : Nat) :
    secOut s (x ++ List.replicate (j + 2) 0) = conv (tapL s) x ++ List.replicate j 0 := by
  have hl : (conv (tapL s) x).length = x.length + 2 := by rw [convL (by unfold tapL; simp) x0]; simp [tapL]; omega
  refine gd_ext (by rw [secOut_len]; simp [hl]; omega) (fun k hk => ?_)
  rw [secOut_len] at hk
  rw [gd_pad]
  have e : gd (secOut s (x ++ List.replicate (j + 2) 0)) k = soAt s.b0 s.b1 s.b2 s.a1 s.a2 s.sh (0, 0, 0, 0) (x ++ List.replicate (j + 2) 0) k := by
    unfold gd secOut soK
    rw [List.getD_eq_getElem?_getD, List.getElem?_map, List.getElem?_range hk]
    rfl
  have hg : gd (conv [s.b0, s.b1, s.b2] (x ++ List.replicate (j + 2) 0)) k = gd (conv (tapL s) x) k := by
    rw [conv_gd, conv_gd]
    exact sig_congr (fun m _ => by rw [gd_pad]; rfl)
  have hb := fir_mB h.t0 h.t1 h.t2 hB (hx.pad (j + 2)) k
  rw [e, h.a1, h.a2, h.sh, fir_at _ _ _ _ _ (by rw [← fir_gd]; unfold bd15; omega), ← fir_gd, hg]
/-- the convolution of the taps of sections. -/
def wantF (w : List Int) (l : List Sec) : List Int := l.foldl (fun w s => conv w (tapL s)) w
def wantK (l : List Sec) (k : Nat) : List Int := wantF [1] (l.take k)
theorem wantK_succ {l : List Sec} {k : Nat} (hk : k < l.length) : wantK l (k + 1) = conv (wantK l k) (tapL (l.getD k Sec0)) := by
  unfold wantK wantF
  rw [List.take_succ_eq_append_getElem hk, List.foldl_append, List.getD_eq_getElem?_getD, List.getElem?_eq_getElem hk]
  rfl
theorem wantK_len {l : List Sec} : ∀ k, k ≤ l.length → (wantK l k).length = 2 * k + 1
  | 0, _ => rfl
  | k + 1, h => by
    have := wantK_len (l := l) k (by omega)
    rw [wantK_succ (by omega), convL (by omega) (by unfold tapL; simp), this]
    simp [tapL]
    omega
theorem wantK_mB {l : List Sec} (h : FirL l) : ∀ k, k ≤ l.length → mB (wantK l k) (12 ^ k)
  | 0, _ => mB.of (by decide) (by intro x hx; simp [wantK, wantF] at hx; subst hx; decide)
  | k + 1, hk => by
    have h1 := wantK_mB h k (by omega)
    have hs := h.get k
    rw [wantK_succ (by omega), conv_comm]
    have := fir_mB hs.t0 hs.t1 hs.t2 (Int.le_of_lt (Int.pow_pos (by decide))) h1
    rwa [show (12 : Int) * 12 ^ k = 12 ^ (k + 1) by rw [Int.pow_succ, Int.mul_comm]] at this
theorem pow12 {k : Nat} (hk : k ≤ 3) : (1 : Int) ≤ 12 ^ k ∧ (12 : Int) ^ k ≤ 1728 := by
  have : k = 0 ∨ k = 1 ∨ k = 2 ∨ k = 3 := by omega
  rcases this with rfl | rfl | rfl | rfl <;> decide
theorem pow12' {k : Nat} (hk : k < 3) : 12 * (12 : Int) ^ k ≤ 1728 := by
  have : k = 0 ∨ k = 1 ∨ k = 2 := by omega
  rcases this with rfl | rfl | rfl <;> decide
theorem wa_len {l : List Sec} {a : List Int} (a0 : 0 < a.length) {k : Nat} (hk : k ≤ l.length) : (conv (wantK l k) a).length = a.length + 2 * k := by
  have := wantK_len k hk
  rw [convL (by omega) a0, this]; omega
theorem wa_succ {l : List Sec} {a : List Int} (a0 : 0 < a.length) {k : Nat} (hk : k < l.length) : conv (wantK l (k + 1)) a = conv (tapL (l.getD k Sec0)) (conv (wantK l k) a) := by
  have := wantK_len (l := l) k (by omega)
  rw [wantK_succ hk, conv_comm (wantK l k), conv_assoc (by unfold tapL; simp) (by omega) a0]
theorem wa_mB {l : List Sec} (h : FirL l) {a : List Int} (a0 : 0 < a.length) (ha : mB a 1) : ∀ k, k ≤ l.length → mB (conv (wantK l k) a) (12 ^ k)
  | 0, _ => by
    show mB (conv [1] a) _
    rw [conv_one a a0]
    exact ha
  | k + 1, hk => by
    have h1 := wa_mB h a0 ha k (by omega)
    have hs := h.get k
    rw [wa_succ a0 (by omega)]
    have := fir_mB hs.t0 hs.t1 hs.t2 (Int.le_of_lt (Int.pow_pos (by decide))) h1
    rwa [show (12 : Int) * 12 ^ k = 12 ^ (k + 1) by rw [Int.pow_succ, Int.mul_comm]] at this
theorem casc_conv {l : List Sec} (h : FirL l) (hl : l.length ≤ 3) {a : List Int} (a0 : 0 < a.length) (ha : mB a 1) : ∀ k, k ≤ l.length →
    casc l (a ++ List.replicate (2 * l.length) 0) k = conv (wantK l k) a ++ List.replicate (2 * (l.length - k)) 0
  | 0, _ => by
    show a ++ _ = conv [1] a ++ _
    rw [conv_one a a0]
    rfl
  | k + 1, hk => by
    have h1 := casc_conv h hl a0 ha k (by omega)
    have h2 := wa_mB h a0 ha k (by omega)
    have h3 := pow12 (k := k) (by omega)
    have h4 := pow12' (k := k) (by omega)
    rw [casc_succ _ (by omega), h1, show 2 * (l.length - k) = 2 * (l.length - (k + 1)) + 2 by omega,
      (h.get k).out (by omega) (by omega) h2 (by rw [wa_len a0 (by omega)]; omega), wa_succ a0 (by omega)]
theorem casc_all {l : List Sec} (h : FirL l) (hl : l.length ≤ 3) {a : List Int} (a0 : 0 < a.length) (ha : mB a 1) :
    casc l (a ++ List.replicate (2 * l.length) 0) l.length = conv (wantK l l.length) a := by
  rw [casc_conv h hl a0 ha l.length (Nat.le_refl _), Nat.sub_self]
  simp
theorem wantF_len (w : List Int) (w0 : 0 < w.length) : ∀ l : List Sec, 0 < (wantF w l).length := by
  intro l
  induction l generalizing w with
  | nil => exact w0
  | cons s t ih =>
    refine ih (conv w (tapL s)) ?_
    rw [convL w0 (by unfold tapL; simp)]
    simp [tapL]
theorem wantF_one : ∀ (l : List Sec) (w : List Int), 0 < w.length → wantF w l = conv w (wantF [1] l) := by
  intro l
  induction l with
  | nil =>
    intro w w0
    show w = conv w [1]
    rw [conv_comm, conv_one w w0]
  | cons s t ih =>
    intro w w0
    have ht : 0 < (tapL s).length := by unfold tapL; simp
    have hc : ∀ v : List Int, 0 < v.length → 0 < (conv v (tapL s)).length := fun v v0 => by rw [convL v0 ht]; omega
    show wantF (conv w (tapL s)) t = conv w (wantF (conv [1] (tapL s)) t)
    rw [ih _ (hc w w0), ih _ (hc [1] (by decide)), conv_one (tapL s) ht, conv_assoc w0 ht (wantF_len [1] (by decide) t)]
/-- what is left where the first section is divided out. -/
theorem want_rest (s : Sec) (t : List Sec) : wantK (s :: t) (t.length + 1) = conv (wantK t t.length) (tapL s) := by
  unfold wantK
  rw [show (s :: t).take (t.length + 1) = s :: t by simp, show t.take t.length = t by simp]
  have ht : 0 < (tapL s).length := by unfold tapL; simp
  show wantF (conv [1] (tapL s)) t = _
  rw [conv_one _ ht, wantF_one t (tapL s) ht, conv_comm]
end Go.Proofs.Ytamldoidalnloaa

/- Floats that stand for sixteenths: what the operations on them give (the operations of IEEE 754 by computation, for small numbers). -/
namespace Go.Proofs.Ytamldoidalnloaa
/-- the float of so many sixteenths. -/
def fl (z : Int) : Nat := FloatKind.f32.encode (.number (z < 0) z.natAbs (-4))
/-- the float of an integer. -/
def fi (z : Int) : Nat := floatOfInt .f32 z
def flB (z : Int) : Bool :=
  (floatBits .quo .f32 (fi z) 1098907648 == some (fl z)) && (floatBits .mul .f32 (fl z) 1098907648 == some (fi z)) && (floatBits .sub .f32 (fl z) (fl z) == some 0) && (floatBits .add .f32 (fl z) 0 == some (fl z)) &&
  (floatToIntVal .f32 (fi z) .i64 == some z) && (FloatKind.f32.format.order (fl z) 3305111552 == some .gt) && (FloatKind.f32.format.order (fl z) 1157627904 == some .lt) && (FloatKind.f32.format.order (fi z) (fi z) == some .eq) &&
  (fl z != 2147483648) && decide (fl z < 4294967296)
def flAll (lo n : Nat) : Bool := (List.range n).all fun k => flB ((lo + k : Nat) : Int) && flB (-((lo + k : Nat) : Int))
set_option maxRecDepth 1000000 in
theorem flAll_0 : flAll 0 217 = true := by decide +kernel
set_option maxRecDepth 1000000 in
theorem flAll_1 : flAll 217 217 = true := by decide +kernel
set_option maxRecDepth 1000000 in
theorem flAll_2 : flAll 434 217 = true := by decide +kernel
set_option maxRecDepth 1000000 in
theorem flAll_3 : flAll 651 217 = true := by decide +kernel
set_option maxRecDepth 1000000 in
theorem flAll_4 : flAll 868 217 = true := by decide +kernel
set_option maxRecDepth 1000000 in
theorem flAll_5 : flAll 1085 217 = true := by decide +kernel
set_option maxRecDepth 1000000 in
theorem flAll_6 : flAll 1302 217 = true := by decide +kernel
set_option maxRecDepth 1000000 in
theorem flAll_7 : flAll 1519 217 = true := by decide +kernel
theorem flB_ok {z : Int} (h : -1728 ≤ z ∧ z ≤ 1728) : flB z = true := by
  have key : ∀ lo, flAll lo 217 = true → lo ≤ z.natAbs → z.natAbs < lo + 217 → flB z = true := fun lo h1 q1 q2 => by
    unfold flAll at h1
    rw [List.all_eq_true] at h1
    have h2 := h1 (z.natAbs - lo) (List.mem_range.2 (by omega))
    rw [Bool.and_eq_true, show lo + (z.natAbs - lo) = z.natAbs by omega] at h2
    rcases (by omega : z = (z.natAbs : Int) ∨ z = -(z.natAbs : Int)) with e | e
    · rw [e]; exact h2.1
    · rw [e]; exact h2.2
  rcases (by omega : (0 ≤ z.natAbs ∧ z.natAbs < 217) ∨ (217 ≤ z.natAbs ∧ z.natAbs < 434) ∨ (434 ≤ z.natAbs ∧ z.natAbs < 651) ∨ (651 ≤ z.natAbs ∧ z.natAbs < 868) ∨ (868 ≤ z.natAbs ∧ z.natAbs < 1085) ∨ (1085 ≤ z.natAbs ∧ z.natAbs < 1302) ∨ (1302 ≤ z.natAbs ∧ z.natAbs < 1519) ∨ (1519 ≤ z.natAbs ∧ z.natAbs < 1736)) with q | q | q | q | q | q | q | q
  · exact key 0 flAll_0 q.1 q.2
  · exact key 217 flAll_1 q.1 q.2
  · exact key 434 flAll_2 q.1 q.2
  · exact key 651 flAll_3 q.1 q.2
  · exact key 868 flAll_4 q.1 q.2
  · exact key 1085 flAll_5 q.1 q.2
  · exact key 1302 flAll_6 q.1 q.2
  · exact key 1519 flAll_7 q.1 q.2
structure FlOk (z : Int) : Prop where
  quo : floatBits .quo .f32 (fi z) 1098907648 = some (fl z)
  mul : floatBits .mul .f32 (fl z) 1098907648 = some (fi z)
  sub : floatBits .sub .f32 (fl z) (fl z) = some 0
  add0 : floatBits .add .f32 (fl z) 0 = some (fl z)
  toI : floatToIntVal .f32 (fi z) .i64 = some z
  lo : FloatKind.f32.format.order (fl z) 3305111552 = some .gt
  hi : FloatKind.f32.format.order (fl z) 1157627904 = some .lt
  eq : FloatKind.f32.format.order (fi z) (fi z) = some .eq
  ne : fl z ≠ 2147483648
  lt : fl z < 4294967296
theorem flOk {z : Int} (h : -1728 ≤ z ∧ z ≤ 1728) : FlOk z := by
  have h1 := flB_ok h
  unfold flB at h1
  simp only [Bool.and_eq_true, beq_iff_eq, bne_iff_ne, ne_eq, decide_eq_true_eq] at h1
  obtain ⟨⟨⟨⟨⟨⟨⟨⟨⟨a, b⟩, c⟩, d⟩, e⟩, f⟩, g⟩, i⟩, j⟩, k⟩ := h1
  exact ⟨a, b, c, d, e, f, g, i, j, k⟩
end Go.Proofs.Ytamldoidalnloaa
