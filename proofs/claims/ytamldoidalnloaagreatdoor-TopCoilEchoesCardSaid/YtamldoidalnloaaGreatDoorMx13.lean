/- Part 13 of the texts of the claim: Tk0, Tk3, Tk4. -/
import Derived.Test.YtamldoidalnloaaGreatDoorMx12
import Derived.Test.YtamldoidalnloaaGreatDoorMx10
import Derived.Test.YtamldoidalnloaaGreatDoorMx11

/- woofertop: coilEcho (printed by tk0.py). -/
namespace Go.Proofs.YtamldoidalnloaaGreatDoor
open Go.RowKit
open Go.Lib (itoa)
open Calm (bcell Blk)
theorem recT_a : recT ⟨#[97]⟩ 48 [16, -32, 24, -32, 8] = [114, 101, 99, 111, 114, 100, 32, 97, 32, 52, 56, 10, 49, 54, 10, 45, 51, 50, 10, 50, 52, 10, 45, 51, 50, 10, 56, 10] := by decide +kernel
theorem good_a : NmGood ⟨#[97]⟩ := ⟨by decide, by decide, fun k h => by
  have e : k = 0 := by
    have h2 : k < 1 := h
    omega
  subst e
  exact .inl (.inr ⟨by show 97 ≤ (97 : UInt8).toNat; decide, by show (97 : UInt8).toNat ≤ 122; decide⟩)⟩
theorem conv_a : conv [16, -32, 8] [1, 0, 1] = [16, -32, 24, -32, 8] := by decide +kernel
theorem okR_a : okR [16, -32, 8] := by unfold okR; decide
theorem quL_a : quL [16, -32, 8, 0, 0] ∧ quL [0, 0, 16, -32, 8] := by unfold quL; decide
theorem flL_a : flL [16, -32, 24, -32, 8] := fun c hc => flOk (by revert c; decide)
theorem enc_a : (#[Value.float .f32 1065353216, .float .f32 3221225472, .float .f32 1056964608] : Array Value) = ([16, -32, 8].map encR).toArray := by
  have h1 : xbR 16 = 1065353216 := by decide +kernel
  have h2 : xbR (-32) = 3221225472 := by decide +kernel
  have h3 : xbR 8 = 1056964608 := by decide +kernel
  show _ = #[Value.float .f32 (xbR 16), .float .f32 (xbR (-32)), .float .f32 (xbR 8)]
  rw [h1, h2, h3]
theorem enc_z : (#[Value.float .f32 0, .float .f32 0] : Array Value) = ([0, 0].map encR).toArray := zeros_enc 2
theorem num_a : numR [16, -32, 24, -32, 8] := by unfold numR; decide
theorem lev_a : lvls [16, -32, 8] ∧ lvls [1, 0, 1] ∧ lvls [16, -32, 24, -32, 8] := by unfold lvls; decide
theorem e_del : List.replicate 2 0 ++ ([16, -32, 8] : List Int).map vzR = [0, 0, 16, -32, 8] := by decide
theorem e_app : ([16, -32, 8] : List Int).map vzR ++ ([0, 0] : List Int).map vzR = [16, -32, 8, 0, 0] := by decide
theorem e_mix : List.zipWith (· + ·) ([16, -32, 8, 0, 0] : List Int) [0, 0, 16, -32, 8] = [16, -32, 24, -32, 8] := by decide
set_option maxRecDepth 100000 in
set_option maxHeartbeats 8000000 in
theorem coilEcho_ok (w : World) (hT : ETab w) : Calls Tryz.prog 6 #[] w fun r w' => r = .returned (.bool true) ∧ Below w.heap.size w w' := by
  have HNM := Lib.hid good_a.ok
  have HDL : Hid (∀ W A, EC encR W A [16, -32, 8] → Calls Tryz.prog 7 #[.agg #[.string ⟨#[97]⟩, (.int .i64 48), .slice A 3 3], (.int .i64 2)] W fun r w' => (∃ B d, r = .returned (.tuple #[.agg #[.string ⟨#[97]⟩, (.int .i64 48), .slice B 5 d], (.int .i64 0)]) ∧ EC encF w' B [0, 0, 16, -32, 8] ∧ ∀ p, B = some p → W.heap.size ≤ p.block) ∧ Below W.heap.size W w') := Lib.hid (fun W A q => by
    have := delay_ok ⟨#[97]⟩ 48 [16, -32, 8] A 3 3 2 W HNM.out (by decide) rfl (by decide) okR_a q
    rw [e_del] at this
    exact this)
  have HAP : Hid (∀ W A B, EC encR W A [16, -32, 8] → EC encR W B [0, 0] → Calls Tryz.prog 9 #[.agg #[.string ⟨#[97]⟩, (.int .i64 48), .slice A 3 3], .agg #[.string ⟨#[97]⟩, (.int .i64 48), .slice B 2 2]] W fun r w' => (∃ B d, r = .returned (.tuple #[.agg #[.string ⟨#[97]⟩, (.int .i64 48), .slice B 5 d], (.int .i64 0)]) ∧ EC encF w' B [16, -32, 8, 0, 0] ∧ ∀ p, B = some p → W.heap.size ≤ p.block) ∧ Below W.heap.size W w') := Lib.hid (fun W A B q1 q2 => by
    have := append_ok ⟨#[97]⟩ 48 [16, -32, 8] [0, 0] A B 3 2 3 2 W HNM.out (by decide) rfl rfl (by decide) okR_a (okR.zeros 2) q1 q2
    rw [e_app] at this
    exact this)
  have HMX : Hid (∀ W A B ca cb, EC encF W A [16, -32, 8, 0, 0] → EC encF W B [0, 0, 16, -32, 8] → Calls Tryz.prog 10 #[.agg #[.string ⟨#[97]⟩, (.int .i64 48), .slice A 5 ca], .agg #[.string ⟨#[97]⟩, (.int .i64 48), .slice B 5 cb]] W fun r w' => (∃ B d, r = .returned (.tuple #[.agg #[.string ⟨#[97]⟩, (.int .i64 48), .slice B 5 d], (.int .i64 0)]) ∧ EC encF w' B [16, -32, 24, -32, 8] ∧ ∀ p, B = some p → W.heap.size ≤ p.block) ∧ Below W.heap.size W w') := Lib.hid (fun W A B ca cb q1 q2 => by
    have := mix_ok ⟨#[97]⟩ 48 [16, -32, 8, 0, 0] [0, 0, 16, -32, 8] A B ca cb 5 W HNM.out (by decide) rfl rfl (by decide) quL_a.1 quL_a.2 q1 q2
    rw [e_mix] at this
    exact this)
  have HSQ : Hid (∀ W A c, EC encF W A [16, -32, 24, -32, 8] → Calls Tryz.prog 15 #[.agg #[.string ⟨#[97]⟩, (.int .i64 48), .slice A 5 c]] W fun r w' => (∃ B d, r = .returned (.tuple #[.slice B 5 d, (.int .i64 0)]) ∧ Cells w' B [16, -32, 24, -32, 8] ∧ ∀ p, B = some p → W.heap.size ≤ p.block) ∧ Below W.heap.size W w') := Lib.hid (fun W A c q => sequence_ok ⟨#[97]⟩ 48 _ A c 5 W HNM.out (by decide) rfl (by decide) flL_a q)
  have HCV : Hid (∀ W A B, Cells W A [16, -32, 8] → Cells W B [1, 0, 1] → Calls Tryz.prog 16 #[.slice A 3 3, .slice B 3 3] W fun r w' => (∃ D d, r = .returned (.tuple #[.slice D 5 d, (.int .i64 0)]) ∧ Cells w' D [16, -32, 24, -32, 8]) ∧ Below W.heap.size W w') := Lib.hid (fun W A B q1 q2 => by
    refine (gConvolve_ok [16, -32, 8] [1, 0, 1] A B 3 3 3 3 W rfl rfl (by decide) (by decide) lev_a.1 lev_a.2.1 (by rw [conv_a]; exact lev_a.2.2) q1 q2).mono ?_
    rintro r w' ⟨v, rfl, ⟨D, d, rfl, h1, _⟩, h2⟩
    rw [conv_a] at h1
    exact ⟨⟨D, d, by rw [conv_a]; rfl, h1⟩, h2⟩)
  have HEN : Hid (∀ W A c, EC encF W A [16, -32, 24, -32, 8] → Calls Tryz.prog 11 #[.agg #[.string ⟨#[97]⟩, (.int .i64 48), .slice A 5 c]] W fun r w' => (∃ B d S, r = .returned (.tuple #[.slice B S d, (.int .i64 0)]) ∧ S = (strm ⟨#[97]⟩ 48 [16, -32, 24, -32, 8]).length ∧ S ≤ d ∧ EC encB w' B (strm ⟨#[97]⟩ 48 [16, -32, 24, -32, 8]) ∧ ∀ p, B = some p → W.heap.size ≤ p.block) ∧ Below W.heap.size W w') := Lib.hid (fun W A c q => encode_ok ⟨#[97]⟩ 48 _ A c 5 W HNM.out (by decide) rfl (by decide) flL_a q)
  have HDE : Hid (∀ W A c S, S = (strm ⟨#[97]⟩ 48 [16, -32, 24, -32, 8]).length → S ≤ c → EC encB W A (strm ⟨#[97]⟩ 48 [16, -32, 24, -32, 8]) → Calls Tryz.prog 12 #[.slice A S c] W fun r w' => (∃ B d, r = .returned (.tuple #[.agg #[.string ⟨#[97]⟩, (.int .i64 48), .slice B 5 d], (.int .i64 0)]) ∧ EC encF w' B [16, -32, 24, -32, 8] ∧ ∀ p, B = some p → W.heap.size ≤ p.block) ∧ Below W.heap.size W w') := Lib.hid (fun W A c S q1 q2 q3 => decode_ok ⟨#[97]⟩ 48 _ A c 5 S W HNM.out (by decide) (by decide) rfl (by decide) flL_a q1 q2 q3)
  have HPR : Hid (∀ W A c, Below w.heap.size w W → EC encF W A [16, -32, 24, -32, 8] → Calls Tryz.prog 13 #[.agg #[.string ⟨#[97]⟩, (.int .i64 48), .slice A 5 c]] W fun r w' => r = .returned (.tuple #[.string ⟨#[114, 101, 99, 111, 114, 100, 32, 97, 32, 52, 56, 10, 49, 54, 10, 45, 51, 50, 10, 50, 52, 10, 45, 51, 50, 10, 56, 10]⟩, (.int .i64 0)]) ∧ Below W.heap.size W w') := Lib.hid (fun W A c hb q => by
    have := print_ok ⟨#[97]⟩ 48 [16, -32, 24, -32, 8] A c 5 W (hT.below hb) HNM.out (by decide) rfl (by decide) flL_a num_a q
    rw [recT_a] at this
    exact this)
  have HSI : Hid (∀ W A B ca cb, Cells W A [16, -32, 24, -32, 8] → Cells W B [16, -32, 24, -32, 8] → Calls Tryz.prog 17 #[.slice A 5 ca, .slice B 5 cb] W fun r w' => r = .returned (.bool true) ∧ Below W.heap.size W w') := Lib.hid (fun W A B ca cb q1 q2 => sameInts_any A B [16, -32, 24, -32, 8] [16, -32, 24, -32, 8] ca cb W q1 q2 (by decide) (by decide))
  clear hT
  go_enter Tryz.func6, Tryz.ntmps6
  go_wp2_with (go_at_call 7; refine name_calls ?_; intro w1 e1; refine Hid.out ?_)
  unfold Hid
  have KS : Blk w1 w.heap.size #[.float .f32 1065353216, .float .f32 3221225472, .float .f32 1056964608] := by rw [e1]; (repeat (first | ((with_reducible refine Blk.at_ ?_); focus (first | rfl | (simp; done) | (simp; omega))) | (with_reducible refine Blk.alloc ?_ _) | (with_reducible refine Blk.below ?_ (by with_reducible assumption)) | (with_reducible refine Blk.drew ?_)))
  have KX := Lib.hid (show Blk w1 (w.heap.size + 1) #[.string ⟨#[97]⟩, (.int .i64 48), .slice (some ⟨w.heap.size, 0, none⟩) 3 3] by rw [e1]; (repeat (first | ((with_reducible refine Blk.at_ ?_); focus (first | rfl | (simp; done) | (simp; omega))) | (with_reducible refine Blk.alloc ?_ _) | (with_reducible refine Blk.below ?_ (by with_reducible assumption)) | (with_reducible refine Blk.drew ?_))))
  have CX : Hid (EC encR w1 (some ⟨w.heap.size, 0, none⟩) [16, -32, 8]) := Lib.hid (EC.blk KS enc_a)
  have HB := Lib.hid (show Below w.heap.size w w1 by rw [e1]; exact bel)
  clear e1 KS
  refine (HDL.out w1 _ CX.out).mono ?_
  rintro r w2 ⟨⟨B2, d2, rfl, c2, _⟩, h2⟩
  replace KX := Lib.hid (KX.out.below h2)
  replace CX := Lib.hid (CX.out.below h2)
  replace HB := Lib.hid (HB.out.trans (h2.mono HB.out.size))
  have CL := Lib.hid c2
  clear h2 c2
  obtain ⟨x0, x1, x2, xl, xf⟩ := KX.out.o3
  go_wp2_with (go_at_call 9; refine name_calls ?_; intro w3 e3; refine Hid.out ?_)
  unfold Hid
  clear x0 x1 x2 xl xf
  have KL := Lib.hid (show Blk w3 w2.heap.size #[.string ⟨#[97]⟩, (.int .i64 48), .slice B2 5 d2] by rw [e3]; (repeat (first | ((with_reducible refine Blk.at_ ?_); focus (first | rfl | (simp; done) | (simp; omega))) | (with_reducible refine Blk.alloc ?_ _) | (with_reducible refine Blk.below ?_ (by with_reducible assumption)) | (with_reducible refine Blk.drew ?_))))
  have KZ := Lib.hid (show Blk w3 (w2.heap.size + 1) #[.float .f32 0, .float .f32 0] by rw [e3]; (repeat (first | ((with_reducible refine Blk.at_ ?_); focus (first | rfl | (simp; done) | (simp; omega))) | (with_reducible refine Blk.alloc ?_ _) | (with_reducible refine Blk.below ?_ (by with_reducible assumption)) | (with_reducible refine Blk.drew ?_))))
  have h3 : Below w2.heap.size w2 w3 := by rw [e3]; exact bel
  replace KX := Lib.hid (KX.out.below h3)
  replace CX := Lib.hid (CX.out.below h3)
  replace CL := Lib.hid (CL.out.below h3)
  replace HB := Lib.hid (HB.out.trans (h3.mono HB.out.size))
  clear e3 h3
  have CZ : Hid (EC encR w3 (some ⟨w2.heap.size + 1, 0, none⟩) [0, 0]) := Lib.hid (EC.blk KZ.out enc_z)
  refine (HAP.out w3 _ _ CX.out CZ.out).mono ?_
  rintro r w4 ⟨⟨B4, d4, rfl, c4, _⟩, h4⟩
  replace KX := Lib.hid (KX.out.below h4)
  replace CX := Lib.hid (CX.out.below h4)
  replace CL := Lib.hid (CL.out.below h4)
  replace KL := Lib.hid (KL.out.below h4)
  replace KZ := Lib.hid (KZ.out.below h4)
  replace HB := Lib.hid (HB.out.trans (h4.mono HB.out.size))
  have CA := Lib.hid c4
  clear h4 c4
  obtain ⟨x0, x1, x2, xl, xf⟩ := KL.out.o3
  go_wp2_with (go_at_call 10; refine name_calls ?_; intro w5 e5; refine Hid.out ?_)
  unfold Hid
  clear x0 x1 x2 xl xf
  have KG := Lib.hid (show Blk w5 w4.heap.size #[.string ⟨#[97]⟩, (.int .i64 48), .slice B4 5 d4] by rw [e5]; (repeat (first | ((with_reducible refine Blk.at_ ?_); focus (first | rfl | (simp; done) | (simp; omega))) | (with_reducible refine Blk.alloc ?_ _) | (with_reducible refine Blk.below ?_ (by with_reducible assumption)) | (with_reducible refine Blk.drew ?_))))
  have h5 : Below w4.heap.size w4 w5 := by rw [e5]; exact bel
  replace KX := Lib.hid (KX.out.below h5)
  replace CX := Lib.hid (CX.out.below h5)
  replace CL := Lib.hid (CL.out.below h5)
  replace KL := Lib.hid (KL.out.below h5)
  replace KZ := Lib.hid (KZ.out.below h5)
  replace CA := Lib.hid (CA.out.below h5)
  replace HB := Lib.hid (HB.out.trans (h5.mono HB.out.size))
  clear e5 h5
  refine (HMX.out w5 _ _ _ _ CA.out CL.out).mono ?_
  rintro r w6 ⟨⟨B6, d6, rfl, c6, _⟩, h6⟩
  replace KX := Lib.hid (KX.out.below h6)
  replace CX := Lib.hid (CX.out.below h6)
  replace CL := Lib.hid (CL.out.below h6)
  replace KL := Lib.hid (KL.out.below h6)
  replace KZ := Lib.hid (KZ.out.below h6)
  replace CA := Lib.hid (CA.out.below h6)
  replace KG := Lib.hid (KG.out.below h6)
  replace HB := Lib.hid (HB.out.trans (h6.mono HB.out.size))
  have CM := Lib.hid c6
  clear h6 c6
  go_wp2_with (go_at_call 15; refine name_calls ?_; intro w7 e7; refine Hid.out ?_)
  unfold Hid
  have KM := Lib.hid (show Blk w7 w6.heap.size #[.string ⟨#[97]⟩, (.int .i64 48), .slice B6 5 d6] by rw [e7]; (repeat (first | ((with_reducible refine Blk.at_ ?_); focus (first | rfl | (simp; done) | (simp; omega))) | (with_reducible refine Blk.alloc ?_ _) | (with_reducible refine Blk.below ?_ (by with_reducible assumption)) | (with_reducible refine Blk.drew ?_))))
  have h7 : Below w6.heap.size w6 w7 := by rw [e7]; exact bel
  replace KX := Lib.hid (KX.out.below h7)
  replace CX := Lib.hid (CX.out.below h7)
  replace CL := Lib.hid (CL.out.below h7)
  replace KL := Lib.hid (KL.out.below h7)
  replace KZ := Lib.hid (KZ.out.below h7)
  replace CA := Lib.hid (CA.out.below h7)
  replace KG := Lib.hid (KG.out.below h7)
  replace CM := Lib.hid (CM.out.below h7)
  replace HB := Lib.hid (HB.out.trans (h7.mono HB.out.size))
  clear e7 h7
  refine (HSQ.out w7 _ _ CM.out).mono ?_
  rintro r w8 ⟨⟨B8, d8, rfl, c8, _⟩, h8⟩
  replace KX := Lib.hid (KX.out.below h8)
  replace CX := Lib.hid (CX.out.below h8)
  replace CL := Lib.hid (CL.out.below h8)
  replace KL := Lib.hid (KL.out.below h8)
  replace KZ := Lib.hid (KZ.out.below h8)
  replace CA := Lib.hid (CA.out.below h8)
  replace KG := Lib.hid (KG.out.below h8)
  replace CM := Lib.hid (CM.out.below h8)
  replace KM := Lib.hid (KM.out.below h8)
  replace HB := Lib.hid (HB.out.trans (h8.mono HB.out.size))
  have CS := Lib.hid c8
  clear h8 c8
  go_wp2_with (go_at_call 16; refine name_calls ?_; intro w9 e9; refine Hid.out ?_)
  unfold Hid
  have KI := Lib.hid (show Blk w9 w8.heap.size #[(.int .i64 16), (.int .i64 (-32)), (.int .i64 8)] by rw [e9]; (repeat (first | ((with_reducible refine Blk.at_ ?_); focus (first | rfl | (simp; done) | (simp; omega))) | (with_reducible refine Blk.alloc ?_ _) | (with_reducible refine Blk.below ?_ (by with_reducible assumption)) | (with_reducible refine Blk.drew ?_))))
  have KJ := Lib.hid (show Blk w9 (w8.heap.size + 1) #[(.int .i64 1), (.int .i64 0), (.int .i64 1)] by rw [e9]; (repeat (first | ((with_reducible refine Blk.at_ ?_); focus (first | rfl | (simp; done) | (simp; omega))) | (with_reducible refine Blk.alloc ?_ _) | (with_reducible refine Blk.below ?_ (by with_reducible assumption)) | (with_reducible refine Blk.drew ?_))))
  have h9 : Below w8.heap.size w8 w9 := by rw [e9]; exact bel
  replace KX := Lib.hid (KX.out.below h9)
  replace CX := Lib.hid (CX.out.below h9)
  replace CL := Lib.hid (CL.out.below h9)
  replace KL := Lib.hid (KL.out.below h9)
  replace KZ := Lib.hid (KZ.out.below h9)
  replace CA := Lib.hid (CA.out.below h9)
  replace KG := Lib.hid (KG.out.below h9)
  replace CM := Lib.hid (CM.out.below h9)
  replace KM := Lib.hid (KM.out.below h9)
  replace CS := Lib.hid (CS.out.below h9)
  replace HB := Lib.hid (HB.out.trans (h9.mono HB.out.size))
  clear e9 h9
  refine (HCV.out w9 _ _ (Cells.blk KI.out rfl) (Cells.blk KJ.out rfl)).mono ?_
  rintro r w10 ⟨⟨B10, d10, rfl, c10⟩, h10⟩
  replace KX := Lib.hid (KX.out.below h10)
  replace CX := Lib.hid (CX.out.below h10)
  replace CL := Lib.hid (CL.out.below h10)
  replace KL := Lib.hid (KL.out.below h10)
  replace KZ := Lib.hid (KZ.out.below h10)
  replace CA := Lib.hid (CA.out.below h10)
  replace KG := Lib.hid (KG.out.below h10)
  replace CM := Lib.hid (CM.out.below h10)
  replace KM := Lib.hid (KM.out.below h10)
  replace CS := Lib.hid (CS.out.below h10)
  replace KI := Lib.hid (KI.out.below h10)
  replace KJ := Lib.hid (KJ.out.below h10)
  replace HB := Lib.hid (HB.out.trans (h10.mono HB.out.size))
  have CC := Lib.hid c10
  clear h10 c10
  obtain ⟨x0, x1, x2, xl, xf⟩ := KM.out.o3
  go_wp2_with (go_at_call 11; refine name_calls ?_; intro w11 e11; refine Hid.out ?_)
  unfold Hid
  clear x0 x1 x2 xl xf
  have h11 : Below w10.heap.size w10 w11 := by rw [e11]; exact bel
  replace KX := Lib.hid (KX.out.below h11)
  replace CX := Lib.hid (CX.out.below h11)
  replace CL := Lib.hid (CL.out.below h11)
  replace KL := Lib.hid (KL.out.below h11)
  replace KZ := Lib.hid (KZ.out.below h11)
  replace CA := Lib.hid (CA.out.below h11)
  replace KG := Lib.hid (KG.out.below h11)
  replace CM := Lib.hid (CM.out.below h11)
  replace KM := Lib.hid (KM.out.below h11)
  replace CS := Lib.hid (CS.out.below h11)
  replace KI := Lib.hid (KI.out.below h11)
  replace KJ := Lib.hid (KJ.out.below h11)
  replace CC := Lib.hid (CC.out.below h11)
  replace HB := Lib.hid (HB.out.trans (h11.mono HB.out.size))
  clear e11 h11
  refine (HEN.out w11 _ _ CM.out).mono ?_
  rintro r w12 ⟨⟨B12, d12, S12, rfl, s1, s2, c12, _⟩, h12⟩
  replace KX := Lib.hid (KX.out.below h12)
  replace CX := Lib.hid (CX.out.below h12)
  replace CL := Lib.hid (CL.out.below h12)
  replace KL := Lib.hid (KL.out.below h12)
  replace KZ := Lib.hid (KZ.out.below h12)
  replace CA := Lib.hid (CA.out.below h12)
  replace KG := Lib.hid (KG.out.below h12)
  replace CM := Lib.hid (CM.out.below h12)
  replace KM := Lib.hid (KM.out.below h12)
  replace CS := Lib.hid (CS.out.below h12)
  replace KI := Lib.hid (KI.out.below h12)
  replace KJ := Lib.hid (KJ.out.below h12)
  replace CC := Lib.hid (CC.out.below h12)
  replace HB := Lib.hid (HB.out.trans (h12.mono HB.out.size))
  have CE := Lib.hid c12
  clear h12 c12
  have SS := Lib.hid (And.intro s1 s2)
  clear s1 s2
  go_wp2_with (go_at_call 12; refine name_calls ?_; intro w13 e13; refine Hid.out ?_)
  unfold Hid
  have h13 : Below w12.heap.size w12 w13 := by rw [e13]; exact bel
  replace KX := Lib.hid (KX.out.below h13)
  replace CX := Lib.hid (CX.out.below h13)
  replace CL := Lib.hid (CL.out.below h13)
  replace KL := Lib.hid (KL.out.below h13)
  replace KZ := Lib.hid (KZ.out.below h13)
  replace CA := Lib.hid (CA.out.below h13)
  replace KG := Lib.hid (KG.out.below h13)
  replace CM := Lib.hid (CM.out.below h13)
  replace KM := Lib.hid (KM.out.below h13)
  replace CS := Lib.hid (CS.out.below h13)
  replace KI := Lib.hid (KI.out.below h13)
  replace KJ := Lib.hid (KJ.out.below h13)
  replace CC := Lib.hid (CC.out.below h13)
  replace CE := Lib.hid (CE.out.below h13)
  replace HB := Lib.hid (HB.out.trans (h13.mono HB.out.size))
  clear e13 h13
  refine (HDE.out w13 _ _ _ SS.out.1 SS.out.2 CE.out).mono ?_
  rintro r w14 ⟨⟨B14, d14, rfl, c14, _⟩, h14⟩
  replace KX := Lib.hid (KX.out.below h14)
  replace CX := Lib.hid (CX.out.below h14)
  replace CL := Lib.hid (CL.out.below h14)
  replace KL := Lib.hid (KL.out.below h14)
  replace KZ := Lib.hid (KZ.out.below h14)
  replace CA := Lib.hid (CA.out.below h14)
  replace KG := Lib.hid (KG.out.below h14)
  replace CM := Lib.hid (CM.out.below h14)
  replace KM := Lib.hid (KM.out.below h14)
  replace CS := Lib.hid (CS.out.below h14)
  replace KI := Lib.hid (KI.out.below h14)
  replace KJ := Lib.hid (KJ.out.below h14)
  replace CC := Lib.hid (CC.out.below h14)
  replace CE := Lib.hid (CE.out.below h14)
  replace HB := Lib.hid (HB.out.trans (h14.mono HB.out.size))
  have CD := Lib.hid c14
  clear h14 c14
  go_wp2_with (go_at_call 13; refine name_calls ?_; intro w15 e15; refine Hid.out ?_)
  unfold Hid
  have KT := Lib.hid (show Blk w15 w14.heap.size #[.string ⟨#[97]⟩, (.int .i64 48), .slice B14 5 d14] by rw [e15]; (repeat (first | ((with_reducible refine Blk.at_ ?_); focus (first | rfl | (simp; done) | (simp; omega))) | (with_reducible refine Blk.alloc ?_ _) | (with_reducible refine Blk.below ?_ (by with_reducible assumption)) | (with_reducible refine Blk.drew ?_))))
  have h15 : Below w14.heap.size w14 w15 := by rw [e15]; exact bel
  replace KX := Lib.hid (KX.out.below h15)
  replace CX := Lib.hid (CX.out.below h15)
  replace CL := Lib.hid (CL.out.below h15)
  replace KL := Lib.hid (KL.out.below h15)
  replace KZ := Lib.hid (KZ.out.below h15)
  replace CA := Lib.hid (CA.out.below h15)
  replace KG := Lib.hid (KG.out.below h15)
  replace CM := Lib.hid (CM.out.below h15)
  replace KM := Lib.hid (KM.out.below h15)
  replace CS := Lib.hid (CS.out.below h15)
  replace KI := Lib.hid (KI.out.below h15)
  replace KJ := Lib.hid (KJ.out.below h15)
  replace CC := Lib.hid (CC.out.below h15)
  replace CE := Lib.hid (CE.out.below h15)
  replace CD := Lib.hid (CD.out.below h15)
  replace HB := Lib.hid (HB.out.trans (h15.mono HB.out.size))
  clear e15 h15
  refine (HPR.out w15 _ _ HB.out CD.out).mono ?_
  rintro r w16 ⟨rfl, h16⟩
  replace KX := Lib.hid (KX.out.below h16)
  replace CX := Lib.hid (CX.out.below h16)
  replace CL := Lib.hid (CL.out.below h16)
  replace KL := Lib.hid (KL.out.below h16)
  replace KZ := Lib.hid (KZ.out.below h16)
  replace CA := Lib.hid (CA.out.below h16)
  replace KG := Lib.hid (KG.out.below h16)
  replace CM := Lib.hid (CM.out.below h16)
  replace KM := Lib.hid (KM.out.below h16)
  replace CS := Lib.hid (CS.out.below h16)
  replace KI := Lib.hid (KI.out.below h16)
  replace KJ := Lib.hid (KJ.out.below h16)
  replace CC := Lib.hid (CC.out.below h16)
  replace CE := Lib.hid (CE.out.below h16)
  replace CD := Lib.hid (CD.out.below h16)
  replace KT := Lib.hid (KT.out.below h16)
  replace HB := Lib.hid (HB.out.trans (h16.mono HB.out.size))
  clear h16 
  go_wp2_with (go_at_call 17; refine name_calls ?_; intro w17 e17; refine Hid.out ?_)
  unfold Hid
  have KQ := Lib.hid (show Blk w17 w16.heap.size #[(.int .i64 16), (.int .i64 (-32)), (.int .i64 24), (.int .i64 (-32)), (.int .i64 8)] by rw [e17]; (repeat (first | ((with_reducible refine Blk.at_ ?_); focus (first | rfl | (simp; done) | (simp; omega))) | (with_reducible refine Blk.alloc ?_ _) | (with_reducible refine Blk.below ?_ (by with_reducible assumption)) | (with_reducible refine Blk.drew ?_))))
  have h17 : Below w16.heap.size w16 w17 := by rw [e17]; exact bel
  replace KX := Lib.hid (KX.out.below h17)
  replace CX := Lib.hid (CX.out.below h17)
  replace CL := Lib.hid (CL.out.below h17)
  replace KL := Lib.hid (KL.out.below h17)
  replace KZ := Lib.hid (KZ.out.below h17)
  replace CA := Lib.hid (CA.out.below h17)
  replace KG := Lib.hid (KG.out.below h17)
  replace CM := Lib.hid (CM.out.below h17)
  replace KM := Lib.hid (KM.out.below h17)
  replace CS := Lib.hid (CS.out.below h17)
  replace KI := Lib.hid (KI.out.below h17)
  replace KJ := Lib.hid (KJ.out.below h17)
  replace CC := Lib.hid (CC.out.below h17)
  replace CE := Lib.hid (CE.out.below h17)
  replace CD := Lib.hid (CD.out.below h17)
  replace KT := Lib.hid (KT.out.below h17)
  replace HB := Lib.hid (HB.out.trans (h17.mono HB.out.size))
  clear e17 h17
  refine (HSI.out w17 _ _ _ _ CS.out (Cells.blk KQ.out rfl)).mono ?_
  rintro r w18 ⟨rfl, h18⟩
  replace KX := Lib.hid (KX.out.below h18)
  replace CX := Lib.hid (CX.out.below h18)
  replace CL := Lib.hid (CL.out.below h18)
  replace KL := Lib.hid (KL.out.below h18)
  replace KZ := Lib.hid (KZ.out.below h18)
  replace CA := Lib.hid (CA.out.below h18)
  replace KG := Lib.hid (KG.out.below h18)
  replace CM := Lib.hid (CM.out.below h18)
  replace KM := Lib.hid (KM.out.below h18)
  replace CS := Lib.hid (CS.out.below h18)
  replace KI := Lib.hid (KI.out.below h18)
  replace KJ := Lib.hid (KJ.out.below h18)
  replace CC := Lib.hid (CC.out.below h18)
  replace CE := Lib.hid (CE.out.below h18)
  replace CD := Lib.hid (CD.out.below h18)
  replace KT := Lib.hid (KT.out.below h18)
  replace KQ := Lib.hid (KQ.out.below h18)
  replace HB := Lib.hid (HB.out.trans (h18.mono HB.out.size))
  clear h18 
  go_wp2_with (go_at_call 17; refine name_calls ?_; intro w19 e19; refine Hid.out ?_)
  unfold Hid
  have h19 : Below w18.heap.size w18 w19 := by rw [e19]; exact bel
  replace KX := Lib.hid (KX.out.below h19)
  replace CX := Lib.hid (CX.out.below h19)
  replace CL := Lib.hid (CL.out.below h19)
  replace KL := Lib.hid (KL.out.below h19)
  replace KZ := Lib.hid (KZ.out.below h19)
  replace CA := Lib.hid (CA.out.below h19)
  replace KG := Lib.hid (KG.out.below h19)
  replace CM := Lib.hid (CM.out.below h19)
  replace KM := Lib.hid (KM.out.below h19)
  replace CS := Lib.hid (CS.out.below h19)
  replace KI := Lib.hid (KI.out.below h19)
  replace KJ := Lib.hid (KJ.out.below h19)
  replace CC := Lib.hid (CC.out.below h19)
  replace CE := Lib.hid (CE.out.below h19)
  replace CD := Lib.hid (CD.out.below h19)
  replace KT := Lib.hid (KT.out.below h19)
  replace KQ := Lib.hid (KQ.out.below h19)
  replace HB := Lib.hid (HB.out.trans (h19.mono HB.out.size))
  clear e19 h19
  refine (HSI.out w19 _ _ _ _ CC.out CS.out).mono ?_
  rintro r w20 ⟨rfl, h20⟩
  replace KX := Lib.hid (KX.out.below h20)
  replace CX := Lib.hid (CX.out.below h20)
  replace CL := Lib.hid (CL.out.below h20)
  replace KL := Lib.hid (KL.out.below h20)
  replace KZ := Lib.hid (KZ.out.below h20)
  replace CA := Lib.hid (CA.out.below h20)
  replace KG := Lib.hid (KG.out.below h20)
  replace CM := Lib.hid (CM.out.below h20)
  replace KM := Lib.hid (KM.out.below h20)
  replace CS := Lib.hid (CS.out.below h20)
  replace KI := Lib.hid (KI.out.below h20)
  replace KJ := Lib.hid (KJ.out.below h20)
  replace CC := Lib.hid (CC.out.below h20)
  replace CE := Lib.hid (CE.out.below h20)
  replace CD := Lib.hid (CD.out.below h20)
  replace KT := Lib.hid (KT.out.below h20)
  replace KQ := Lib.hid (KQ.out.below h20)
  replace HB := Lib.hid (HB.out.trans (h20.mono HB.out.size))
  clear h20 
  go_wp2
  go_ret
  exact ⟨rfl, HB.out⟩
end Go.Proofs.YtamldoidalnloaaGreatDoor

/- TopCoilEchoes: its numbers, plain. -/
namespace Go.Proofs.YtamldoidalnloaaGreatDoor
/-- the record's sequence, the echo, and what is known of them. -/
structure EchoP (l own Es : List Int) (k D : Nat) : Prop where
  ol : k = own.length
  b : bdL own 1024
  qx : quL (own ++ List.replicate D 0)
  qy : quL (List.replicate D 0 ++ own)
  es : List.zipWith (· + ·) (own ++ List.replicate D 0) (List.replicate D 0 ++ own) = Es
  el : Es.length = D + k
  fl : flL Es
  nr : numR Es
  rng : ∀ x ∈ Es, -32768 ≤ x ∧ x ≤ 32768
  lo : lvls own
  lu : lvls (unitD D)
  lc : lvls (conv own (unitD D))
  e0 : k = 0 → Es = List.replicate D 0 ∧ conv own (unitD D) = []
  e1 : 0 < k → conv own (unitD D) = Es
theorem quL.app {a b : List Int} (h1 : quL a) (h2 : quL b) : quL (a ++ b) := fun c hc => by
  rcases List.mem_append.1 hc with h | h
  · exact h1 c h
  · exact h2 c h
theorem quL.zeros (n : Nat) : quL (List.replicate n 0) := fun c hc => by
  obtain ⟨_, rfl⟩ := List.mem_replicate.1 hc
  omega
theorem echo_p (l : List Int) (k D : Nat) (hk : k = l.length) (hk16 : k ≤ 16) (hD : 1 ≤ D ∧ D ≤ 8) (hq : ∀ j, -1024 ≤ vzR (l.getD j 0) ∧ vzR (l.getD j 0) ≤ 1024) :
    EchoP l (l.map vzR) (List.zipWith (· + ·) (l.map vzR ++ List.replicate D 0) (List.replicate D 0 ++ l.map vzR)) k D := by
  have hm : ∀ x ∈ l.map vzR, -1024 ≤ x ∧ x ≤ 1024 := fun x hx => by
    obtain ⟨c, hc, rfl⟩ := List.mem_map.1 hx
    obtain ⟨j, hj, rfl⟩ := List.getElem_of_mem hc
    have := hq j
    rwa [List.getD_eq_getElem?_getD, List.getElem?_eq_getElem hj] at this
  have ho : k = (l.map vzR).length := by rw [List.length_map]; exact hk
  obtain ⟨own, hown⟩ : ∃ own, own = l.map vzR := ⟨_, rfl⟩
  rw [← hown] at hm ho ⊢
  have hb : bdL own 1024 := bdL.of (by decide) hm
  have qo : quL own := fun c hc => by have := hm c hc; omega
  have qx : quL (own ++ List.replicate D 0) := qo.app (quL.zeros D)
  have qy : quL (List.replicate D 0 ++ own) := (quL.zeros D).app qo
  have hr : ∀ x ∈ List.zipWith (· + ·) (own ++ List.replicate D 0) (List.replicate D 0 ++ own), -32768 ≤ x ∧ x ≤ 32768 := fun x hx => by
    obtain ⟨j, hj, rfl⟩ := List.getElem_of_mem hx
    rw [List.getElem_zipWith]
    have h1 := qx _ (List.getElem_mem (by simp at hj ⊢; omega) : (own ++ List.replicate D 0)[j]'(by simp at hj ⊢; omega) ∈ _)
    have h2 := qy _ (List.getElem_mem (by simp at hj ⊢; omega) : (List.replicate D 0 ++ own)[j]'(by simp at hj ⊢; omega) ∈ _)
    omega
  have hlc : lvls (conv own (unitD D)) := by
    rw [conv_comm]
    refine (conv_bd (n := 9) (unitD_pmz hD.1) (by rw [unitD_len]; omega) (by decide) hb).lvls (by decide)
  refine ⟨ho, hb, qx, qy, rfl, by simp; omega, flL.sum qx qy, fun x hx => by have := hr x hx; omega, hr, hb.lvls (by decide), (bdL.of (B := 1) (by decide) fun x hx => ?_).lvls (by decide), hlc, fun h0 => ?_, fun h0 => (echo_conv own D (by omega) hD.1).symm⟩
  · obtain ⟨j, hj, rfl⟩ := List.getElem_of_mem hx
    have := unitD_pmz hD.1 j
    unfold gd at this
    rw [List.getD_eq_getElem?_getD, List.getElem?_eq_getElem hj] at this
    simp only [Option.getD_some] at this
    omega
  · have : own = [] := List.eq_nil_of_length_eq_zero (by omega)
    subst this
    refine ⟨?_, conv_nil (.inl rfl)⟩
    apply List.ext_getElem
    · simp
    · intro j h1 h2
      simp
/-- the pair, its convolutions, their correlations. -/
structure PairP (own : List Int) (k E SZ : Nat) (a b x y u v : List Int) : Prop where
  ea : (gol E).1 = a
  eb : (gol E).2 = b
  ex : conv a own = x
  ey : conv b own = y
  eu : conv a.reverse x = u
  ev : conv b.reverse y = v
  al : SZ = a.length
  bl : SZ = b.length
  xl : x.length = SZ + k - 1
  yl : y.length = SZ + k - 1
  ul : u.length = 2 * SZ + k - 2
  vl : v.length = 2 * SZ + k - 2
  la : lvls a
  lb : lvls b
  lx : lvls x
  ly : lvls y
  lu : lvls u
  lv : lvls v
  sum : ∀ i, u.getD i 0 + v.getD i 0 = if SZ - 1 ≤ i then 2 * (SZ : Int) * own.getD (i - (SZ - 1)) 0 else 0
theorem pmz.bd {l : List Int} (h : pmz l) : bdL l 1 := fun k => by rcases h k with e | e | e <;> rw [e] <;> decide
theorem pair_p (own : List Int) (k E SZ : Nat) (hk : k = own.length) (hk0 : 0 < k) (hk16 : k ≤ 16) (hE : E < 5) (hS : SZ = 2 ^ E) (hb : bdL own 1024) :
    PairP own k E SZ (gol E).1 (gol E).2 (conv (gol E).1 own) (conv (gol E).2 own) (conv (gol E).1.reverse (conv (gol E).1 own)) (conv (gol E).2.reverse (conv (gol E).2 own)) := by
  obtain ⟨p1, p2, p3, p4⟩ := gol_pmz E
  obtain ⟨l1, l2⟩ := gol_len E
  have hp : 1 ≤ 2 ^ E ∧ 2 ^ E ≤ 16 := ⟨Nat.one_le_two_pow, Nat.le_trans (Nat.pow_le_pow_right (by decide) (show E ≤ 4 by omega)) (by decide)⟩
  have x1 := convL (h := (gol E).1) (p := own) (by omega) (by omega)
  have y1 := convL (h := (gol E).2) (p := own) (by omega) (by omega)
  have u1 := convL (h := (gol E).1.reverse) (p := conv (gol E).1 own) (by simp; omega) (by omega)
  have v1 := convL (h := (gol E).2.reverse) (p := conv (gol E).2 own) (by simp; omega) (by omega)
  rw [List.length_reverse] at u1 v1
  have bx : bdL (conv (gol E).1 own) (1024 * (16 : Nat)) := conv_bd p1 (by omega) (by decide) hb
  have by' : bdL (conv (gol E).2 own) (1024 * (16 : Nat)) := conv_bd p2 (by omega) (by decide) hb
  have bu : bdL (conv (gol E).1.reverse (conv (gol E).1 own)) (1024 * (16 : Nat) * (16 : Nat)) := conv_bd p3 (by simp; omega) (by decide) bx
  have bv : bdL (conv (gol E).2.reverse (conv (gol E).2 own)) (1024 * (16 : Nat) * (16 : Nat)) := conv_bd p4 (by simp; omega) (by decide) by'
  refine ⟨rfl, rfl, rfl, rfl, rfl, rfl, by omega, by omega, by omega, by omega, by omega, by omega, p1.bd.lvls (by decide), p2.bd.lvls (by decide), bx.lvls (by decide), by'.lvls (by decide), bu.lvls (by decide), bv.lvls (by decide), fun i => ?_⟩
  have := gol_sum hE own (by omega) i
  unfold gd at this
  rw [hS]
  exact this
end Go.Proofs.YtamldoidalnloaaGreatDoor

/- Words for TopCoilEchoes' walk: make and append of numbers with the world named; the list 1, zeros, 1 stored. -/
namespace Go.Proofs.YtamldoidalnloaaGreatDoor
open Go.RowKit
open Calm (bcell Blk)
theorem Cells.setI {w : World} {b o : Nat} {zs : List Int} (h : Cells w (some ⟨b, o, none⟩) zs) {k : Nat} (hk : k < zs.length) (v : Int) : Cells (w.setCell ⟨b, o + k, none⟩ (.int .i64 v)) (some ⟨b, o, none⟩) (zs.set k v) := by
  intro h0
  obtain ⟨b', o', hA, hl, hc⟩ := h (by omega)
  cases hA
  refine ⟨b, o, rfl, by simpa using hl, fun j hj => ?_⟩
  have hj' : j < zs.length := by simpa using hj
  by_cases hjk : j = k
  · subst hjk
    rw [World.cell?_setCell_same' _ _ _ (by rw [hc j hj']; rfl)]
    simp [List.getD_eq_getElem?_getD, hk]
  · rw [World.cell?_setCell_other _ _ _ _ (by intro e; have e2 := congrArg Addr.off e; simp at e2; omega), hc j hj']
    simp [List.getD_eq_getElem?_getD, List.getElem?_set, hj', show ¬ k = j by omega]
theorem Cells.zeros {W : World} {g n : Nat} (hB : Blk W g (zerosA n).toArray) : Cells W (some ⟨g, 0, none⟩) (List.replicate n 0) := Cells.blk hB (by unfold zerosA; simp)
theorem Cells.two {W : World} {g D : Nat} (hB : Blk W g (zerosA (D + 1)).toArray) : Cells ((W.setCell ⟨g, 0, none⟩ (.int .i64 1)).setCell ⟨g, D, none⟩ (.int .i64 1)) (some ⟨g, 0, none⟩) (unitD D) := by
  have h0 : Cells W (some ⟨g, 0, none⟩) (List.replicate (D + 1) 0) := Cells.zeros hB
  have h1 := h0.setI (k := 0) (by simp) 1
  have h2 := h1.setI (k := D) (by simp) 1
  simp only [Nat.zero_add] at h2
  exact h2
/-- make([]int, n). -/
theorem wpList_mkI {w : World} {ops : Array Oper} {rest : List Oper} {o : Oper} {a : Act} {Q : Exit → Act → World → Prop} (hgd : o.guard = none) (l c : Operand) (ho : o.op = .makeSlice 44 l c) (n : Nat) (hn : n ≤ 1000000)
    (hl : a.eval l = (.int .i64 ((n : Int)))) (hc : a.eval c = (.int .i64 ((n : Int)))) (h : ∀ W, W = w.alloc (.cells (zerosA n).toArray 3) → wpList Tryz.prog ops Q rest (a.put o.dst (.slice (some ⟨w.heap.size, 0, none⟩) n n)) W) : wpList Tryz.prog ops Q (o :: rest) a w := by
  refine wpList_plain hgd fun K hK => ?_
  have hrun := mk_ints n hn w
  unfold Oper.wp
  simp [execOp, ho, hl, hc, hrun, Result.andThen]
  exact hK _ _ (h _ rfl)
/-- append([]int{}, l...). -/
theorem wpList_appJ {w : World} {ops : Array Oper} {rest : List Oper} {o : Oper} {a : Act} {Q : Exit → Act → World → Prop} (hgd : o.guard = none) (s x : Operand)
    (ho : o.op = .call { callee := .builtin .append, args := #[s, x], argTypes := #[44, 44] }) (g n c : Nat) (A : Option Addr) (xs : List Int) (hn : n = xs.length)
    (hs : a.eval s = .slice (some ⟨g, 0, none⟩) 0 0) (hx : a.eval x = .slice A n c) (hg : g < w.heap.size) (h5 : n ≤ 100000) (hC : Cells w A xs)
    (h : ∀ B d w', Below w.heap.size w w' → Cells w' B xs → wpList Tryz.prog ops Q rest (a.put o.dst (.slice B n d)) w') : wpList Tryz.prog ops Q (o :: rest) a w := by
  obtain ⟨i0, hi, hz0, hz1, hz2⟩ := info_parts Tryz.infoI
  refine wpList_plain hgd fun K hK => ?_
  rcases Nat.eq_zero_or_pos n with h0 | h0
  · subst h0
    obtain rfl : xs = [] := List.eq_nil_of_length_eq_zero hn.symm
    have hrun := Rel.run_append_zero (P := Tryz.prog) w 44 o.type 3 i0 _ Tryz.underlying44 hi hz0 ⟨g, 0, none⟩ A c
    unfold Oper.wp
    simp [execOp, ho, resolve, invoke, builtin, hs, hx, hrun, Result.andThen]
    exact hK _ _ (h (some ⟨g, 0, none⟩) 0 w (Below.refl _ _) (fun h => absurd h (by simp)))
  · obtain ⟨b, off, rfl, hb, hc⟩ := hC (by omega)
    obtain ⟨v', w', hrun, r1, r2⟩ := run_append_arg_grows (P := Tryz.prog) w 44 o.type 3 i0 _ 1 8 Tryz.underlying44 hi hz0 hz1 hz2 rfl (by decide) ⟨g, 0, none⟩ 0 0 [] (by simp) (by simp) ⟨b, off, none⟩ n c (xs.map (Value.int .i64)) (by simp; omega) (fun j v hj => cells_src hc j v hj) (by omega) (by unfold maxLen; omega) (by omega)
    unfold Oper.wp
    simp [execOp, ho, resolve, invoke, builtin, hs, hx, hrun, Result.andThen]
    have r1' : w'.ownsRow w.heap.size 3 1 v' n (xs.map (Value.int .i64)) := by simpa using r1
    obtain ⟨B, d, rfl, hf, hcc⟩ := own_ints r1' hn
    exact hK _ _ (h B d w' ((Below.refl w.heap.size w).grown r2 (Nat.le_refl _) (fun k hk => by cases hk)) hcc)
end Go.Proofs.YtamldoidalnloaaGreatDoor
