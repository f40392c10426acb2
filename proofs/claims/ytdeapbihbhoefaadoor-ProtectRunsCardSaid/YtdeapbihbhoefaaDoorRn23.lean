/- Part 23 of the texts of the claim: N12, RunC, LOpP, N13, LPrP, LRnP, LRn_0, LRn_1, LRn_e. -/
import Derived.Test.YtdeapbihbhoefaaDoorRn22
import Derived.Test.YtdeapbihbhoefaaDoorRn19
import Derived.Test.YtdeapbihbhoefaaDoorRn6
import Derived.Test.YtdeapbihbhoefaaDoorRn20
import Derived.Test.YtdeapbihbhoefaaDoorRn7

/- The reference's Played. -/
namespace Go.Proofs.YtdeapbihbhoefaaDoor
open Go.RowKit
open Calm (bcell Blk)
theorem lvsK_st (lk ht rc : Int) (ts gs xs : List Int) (k : Nat) : lvsK lk ht rc ts gs xs (k + 1) = lvsK lk ht rc ts gs xs k ++ [((stAt lk ht rc ts gs xs (k + 1)).lv : Int)] := by
  rw [lvsK_succ]
  rfl
/-- anything. -/
def KW : Rel.Know := fun u _ => ∃ (h lv : Int) (B : Option Addr) (n c : Nat), u = .agg #[(.int .i64 h), (.int .i64 lv), .slice B n c]
set_option maxRecDepth 100000 in
set_option maxHeartbeats 8000000 in
theorem rPlayed_walk {lk ht rc : Int} {ts gs xs : List Int} {M L N Q : Nat} {A1 A2 A3 : Option Addr} {c1 c2 c3 : Nat} {w : World} (hV : Valid lk ht rc ts gs) (hM : M = ts.length) (hL : L = gs.length) (hN : N = xs.length) (hQ : Q = M - 1) (h5 : N ≤ 5000) (hx : inB 2048 xs)
    (hT : Cells w A1 ts) (hG : Cells w A2 gs) (hP : Cells w A3 xs) :
    Calls Tryd.prog 89 #[.agg #[(.int .i64 lk), (.int .i64 ht), .slice A1 M c1, (.int .i64 rc), .slice A2 L c2], .slice A3 N c3] w (KP (K3 (KSI N (outsK lk ht rc ts gs xs N)) (KSI N (lvsK lk ht rc ts gs xs N)) KW) w) := by
  have HU := Lib.hid (show KG lk ht rc M ts L gs (.agg #[(.int .i64 lk), (.int .i64 ht), .slice A1 M c1, (.int .i64 rc), .slice A2 L c2]) w from ⟨_, _, _, _, rfl, hT, hG⟩)
  have HX := Lib.hid (show KS N xs (.slice A3 N c3) w from ⟨_, _, rfl, hP⟩)
  have htl := hV.tl
  have hgl := hV.gl
  have hht := hV.ht
  have hgood := good_at (lk := lk) (ht := ht) (rc := rc) (gs := gs) hV hx
  have HST : Hid (∀ {u v : Value} (k b : Nat) (W : World), k < N → b ≤ W.heap.size → KG lk ht rc M ts L gs u W → KT (stAt lk ht rc ts gs xs k).h ((stAt lk ht rc ts gs xs k).lv : Int) Q (stAt lk ht rc ts gs xs k).ps v W → Calls Tryd.prog 37 #[u, v, (.int .i64 (xs.getD k 0))] W (KP (K2 (KV (.int .i64 (outAt lk ht rc ts gs xs k))) (KTN b (stAt lk ht rc ts gs xs (k + 1)).h ((stAt lk ht rc ts gs xs (k + 1)).lv : Int) Q (stAt lk ht rc ts gs xs (k + 1)).ps)) W)) := Lib.hid (fun k b W hk hb q1 q2 => by
    have g := hgood k
    have gh := g.h
    have gv := g.lv
    have gp := g.pl
    exact (rStep_N hV ⟨gh.1, by omega⟩ (by omega) hM hL (by omega) (by omega) g.pb (inB_get hx (by omega) k) q1 q2).mono fun e W' ⟨v, k1, ⟨u1, u2, k2, k3, k4⟩, k5⟩ => ⟨v, k1, ⟨u1, u2, k2, k3, k4.mono hb⟩, k5⟩)
  have HBE : Hid (∀ {u : Value} (W : World), KG lk ht rc M ts L gs u W → Calls Tryd.prog 19 #[u] W (KP (KTI 0 ((L - 1 : Nat) : Int) Q (List.replicate Q 0)) W)) := Lib.hid (fun W q => by rw [hQ]; exact rBegin_K (by omega) (by omega) q)
  have H00 := Lib.hid (show (stAt lk ht rc ts gs xs 0).h = 0 ∧ ((stAt lk ht rc ts gs xs 0).lv : Int) = ((L - 1 : Nat) : Int) ∧ (stAt lk ht rc ts gs xs 0).ps = List.replicate Q 0 from ⟨rfl, by rw [hL]; rfl, by rw [hQ, hM]; rfl⟩)
  have HN := Lib.hid hN
  have HQ := Lib.hid hQ
  have hN5 : N ≤ 5000 := h5
  clear hT hG hP hV hM hL hN hQ htl hgl hht hgood hx
  go_enter Tryd.func89, Tryd.ntmps89
  have HB0 := Lib.hid (Below.refl w.heap.size w)
  go_wp2_with (go_at_call 19; refine name_calls ?_; intro w1 e1; refine Hid.out ?_)
  unfold Hid
  have h1 : Below w.heap.size w w1 := by rw [e1]; exact bel
  have HB1 := Lib.hid (HB0.out.trans (h1.mono HB0.out.size))
  have bg_1 := Lib.hid (show Blk w1 w.heap.size #[(.int .i64 lk), (.int .i64 ht), .slice A1 M c1, (.int .i64 rc), .slice A2 L c2] from by rw [e1]; (repeat (first | ((with_reducible refine Blk.at_ ?_); focus (first | rfl | (simp; done) | (simp; omega))) | (with_reducible refine Blk.alloc ?_ _) | (with_reducible refine Blk.below ?_ (by with_reducible assumption)) | (with_reducible refine Blk.drew ?_))))
  have b6_1 := Lib.hid (show Blk w1 (w.heap.size + 1) #[(.int .i64 0), (.int .i64 0), .slice none 0 0] from by rw [e1]; (repeat (first | ((with_reducible refine Blk.at_ ?_); focus (first | rfl | (simp; done) | (simp; omega))) | (with_reducible refine Blk.alloc ?_ _) | (with_reducible refine Blk.below ?_ (by with_reducible assumption)) | (with_reducible refine Blk.drew ?_))))
  clear e1 h1
  refine (HBE.out _ (KG.st _ _ _ _ _ _ _ _ _ _ HU.out HB1.out)).mono ?_
  rintro r w2 ⟨v2, rfl, ⟨SB, SD, rfl, hSc, hSi⟩, h2⟩
  have bg_2 := Lib.hid (bg_1.out.below h2)
  have b6_2 := Lib.hid (b6_1.out.below h2)
  have HB2 := Lib.hid (HB1.out.trans (h2.mono HB1.out.size))
  have HS0 := Lib.hid (show KTI 0 ((L - 1 : Nat) : Int) Q (List.replicate Q 0) (.agg #[(.int .i64 0), (.int .i64 (((L - 1 : Nat) : Int))), .slice SB Q SD]) w2 from ⟨_, _, rfl, hSc, hSi⟩)
  clear hSc hSi h2
  obtain ⟨gs7, hg7⟩ : ∃ gs7, gs7 = w2.heap.size := ⟨_, rfl⟩
  go_wp2
  refine name_world ?_
  intro w3 e3
  have h3 : Below w2.heap.size w2 w3 := by rw [e3]; exact bel
  have bg_3 := Lib.hid (bg_2.out.below h3)
  have b6_3 := Lib.hid (b6_2.out.below h3)
  have HB3 := Lib.hid (HB2.out.trans (h3.mono HB2.out.size))
  have b7_3 := Lib.hid (show Blk w3 gs7 #[(.int .i64 0), (.int .i64 (((L - 1 : Nat) : Int))), .slice SB Q SD] from by rw [e3, hg7]; exact Calm.Blk.new _ _ _)
  have ty7 := Lib.hid (show IsTy w3 gs7 26 from by rw [e3, hg7]; exact IsTy.new)
  have hzs : gs7 + 1 ≤ w3.heap.size := by rw [e3, hg7]; simp
  have HS1 := Lib.hid (KTI.st _ _ _ _ _ _ _ HS0.out h3)
  have hg6 : w.heap.size + 1 < gs7 := by rw [hg7]; exact b6_2.out.lt
  have hS7 : ∀ p, SB = some p → 0 < Q → p.block ≠ gs7 := fun p hp h0 => by
    obtain ⟨_, _, ee, hcc, _⟩ := HS0.out
    cases ee
    obtain ⟨b, o, e2, hl, _⟩ := hcc (by simpa using h0)
    rw [hp] at e2
    cases e2
    rw [hg7]
    exact Nat.ne_of_lt hl
  clear e3 h3
  rw [← hg7]
  clear hg7
  go_loopw [10, 8, 9] (fun i o z wr => ∃ (k : Nat) (B : Option Addr) (c : Nat), k ≤ N ∧ i = (.int .i64 ((k : Int))) ∧ wr.ownsRow (gs7 + 1) 3 1 o k ((outsK lk ht rc ts gs xs k).map (Value.int .i64)) ∧ wr.ownsRow (gs7 + 1) 3 1 z k ((lvsK lk ht rc ts gs xs k).map (Value.int .i64)) ∧ Apt o z ∧ Blk wr w.heap.size #[(.int .i64 lk), (.int .i64 ht), .slice A1 M c1, (.int .i64 rc), .slice A2 L c2] ∧ Blk wr (w.heap.size + 1) #[(.int .i64 0), (.int .i64 0), .slice none 0 0] ∧ Blk wr gs7 #[(.int .i64 ((stAt lk ht rc ts gs xs k).h)), (.int .i64 (((stAt lk ht rc ts gs xs k).lv : Int))), .slice B Q c] ∧ Cells wr B (stAt lk ht rc ts gs xs k).ps ∧ (∀ p, B = some p → 0 < Q → p.block ≠ gs7) ∧ IsTy wr gs7 26 ∧ Below w.heap.size w wr ∧ gs7 + 1 ≤ wr.heap.size) (fun i _ _ _ => N - (intOf i).toNat)
  case atStart => exact ⟨0, SB, SD, Nat.zero_le _, rfl, World.ownsRow_nil _ _ _ _, World.ownsRow_nil _ _ _ _, (fun k hk => by cases hk), bg_3.out, b6_3.out, (by rw [H00.out.1, H00.out.2.1]; exact b7_3.out), (by obtain ⟨_, _, ee, hcc, _⟩ := HS1.out; cases ee; rw [H00.out.2.2]; exact hcc), hS7, ty7.out, HB3.out, hzs⟩
  case round =>
    obtain ⟨k, B, c, hk, rfl, ho, hz, hap, kg, k6, ks, kc, kne, kt, kb, kz⟩ := hrel
    obtain ⟨C1, d1, rfl⟩ := own_slice ho
    obtain ⟨C2, d2, rfl⟩ := own_slice hz
    have HO := Lib.hid ho
    have HZ := Lib.hid hz
    have HAP := Lib.hid hap
    have KGB := Lib.hid kg
    have K6B := Lib.hid k6
    have KSB := Lib.hid ks
    have KC := Lib.hid kc
    have KNE := Lib.hid kne
    have KTY := Lib.hid kt
    have KB := Lib.hid kb
    obtain ⟨g0, g1, g2, g3, g4, gl, -⟩ := kg.o5
    obtain ⟨s0, s1, s2, sl, -⟩ := ks.o3
    clear ho hz hap kg k6 ks kc kne kt kb
    by_cases hlt : k < N
    · have HUW := Lib.hid (KG.st _ _ _ _ _ _ _ _ _ _ HU.out KB.out)
      have HXW := Lib.hid (KS.st _ _ _ _ _ HX.out KB.out)
      obtain ⟨_, _, ee, hxc⟩ := HXW.out
      cases ee
      obtain ⟨bx, ox, hAx, hxl, hxcell⟩ := hxc (by rw [← HN.out]; omega)
      subst hAx
      have hck := hxcell k (by rw [← HN.out]; exact hlt)
      clear hxc hxcell
      obtain ⟨X, hX⟩ : ∃ X, X = outAt lk ht rc ts gs xs k := ⟨_, rfl⟩
      obtain ⟨H1, hH1⟩ : ∃ H1, H1 = (stAt lk ht rc ts gs xs (k + 1)).h := ⟨_, rfl⟩
      obtain ⟨V1, hV1⟩ : ∃ V1, V1 = ((stAt lk ht rc ts gs xs (k + 1)).lv : Int) := ⟨_, rfl⟩
      obtain ⟨P1, hP1⟩ : ∃ P1, P1 = (stAt lk ht rc ts gs xs (k + 1)).ps := ⟨_, rfl⟩
      obtain ⟨x, hx⟩ : ∃ x, x = xs.getD k 0 := ⟨_, rfl⟩
      obtain ⟨h0, hh0⟩ : ∃ h0, h0 = (stAt lk ht rc ts gs xs k).h := ⟨_, rfl⟩
      obtain ⟨v0, hv0⟩ : ∃ v0, v0 = ((stAt lk ht rc ts gs xs k).lv : Int) := ⟨_, rfl⟩
      obtain ⟨p0, hp0⟩ : ∃ p0, p0 = (stAt lk ht rc ts gs xs k).ps := ⟨_, rfl⟩
      have HSTK : Hid (∀ {u v : Value} (W : World), wr.heap.size ≤ W.heap.size → KG lk ht rc M ts L gs u W → KT h0 v0 Q p0 v W → Calls Tryd.prog 37 #[u, v, (.int .i64 x)] W (KP (K2 (KV (.int .i64 X)) (KTN wr.heap.size H1 V1 Q P1)) W)) := Lib.hid (fun W hb q1 q2 => by rw [hX, hH1, hV1, hP1, hx]; exact HST.out k _ W hlt hb q1 (by rw [← hh0, ← hv0, ← hp0]; exact q2))
      have HOS := Lib.hid (show outsK lk ht rc ts gs xs (k + 1) = outsK lk ht rc ts gs xs k ++ [X] by rw [hX]; exact outsK_succ _ _ _ _ _ _ _)
      have HZS := Lib.hid (show lvsK lk ht rc ts gs xs (k + 1) = lvsK lk ht rc ts gs xs k ++ [V1] by rw [hV1]; exact lvsK_st _ _ _ _ _ _ _)
      have HH1 := Lib.hid hH1
      have HV1 := Lib.hid hV1
      have HP1 := Lib.hid hP1
      rw [← hx] at hck
      rw [← hh0] at s0
      rw [← hv0] at s1
      have KC0 := Lib.hid (show Cells wr B p0 by rw [hp0]; exact KC.out)
      clear hX hH1 hV1 hP1 hx hh0 hv0 hp0
      have hkN : (k : Int) < (N : Int) := by omega
      go_wp2
      refine Rel.region3 12 (by kernel_rfl) (by kernel_rfl) (by kernel_rfl) ?_
      simp only [List.take_succ_cons, List.take_zero, List.drop_succ_cons, List.drop_zero, List.filterMap_cons, List.filterMap_nil]
      iterate 6 (refine Rel.opz (hn := ?_); (try simp only [List.nil_append, List.cons_append]))
      refine Rel.callK 37 (K2 (KV (.int .i64 X)) (KTN wr.heap.size H1 V1 Q P1)) ((K2.ik (KV.ik _) (KTN.ik _ _ _ _ _)).st) (Rel.gno rfl) ?_ ?_
      · intro a W hb hd hbase
        have q1 : a.eval (.tmp 22) = _ := (Rel.dep_at hd 0 rfl rfl)
        have q2 : a.eval (.tmp 23) = _ := (Rel.dep_at hd 1 rfl rfl)
        have q3 : a.eval (.tmp 27) = _ := (Rel.dep_at hd 5 rfl rfl)
        refine ⟨#[a.eval (.tmp 22), a.eval (.tmp 23), a.eval (.tmp 27)], ?_, by rw [q1, q2, q3]; exact HSTK.out _ hb.size (KG.st _ _ _ _ _ _ _ _ _ _ HUW.out hb) ⟨_, _, rfl, KC0.out.below hb⟩⟩
        clear hd hbase hb
        go_simp
        (first | done | rfl | (refine ⟨?_, ?_⟩ <;> rfl))
      (try simp only [List.nil_append, List.cons_append])
      refine Rel.mvK 28 6 rfl rfl rfl ((K2.ik (KV.ik _) (KTN.ik _ _ _ _ _)).st) (Rel.gno rfl) ?_
      (try simp only [List.nil_append, List.cons_append])
      refine Rel.ext20 21 7 rfl rfl rfl ((KV.ik _).st) (Rel.gno rfl) ?_
      (try simp only [List.nil_append, List.cons_append])
      refine Rel.ext21 21 7 rfl rfl rfl ((KTN.ik _ _ _ _ _).st) (Rel.gno rfl) ?_
      (try simp only [List.nil_append, List.cons_append])
      (apply Rel.allocT3 26 #[(.int .i64 0), (.int .i64 0), .slice none 0 0]; (focus (exact Rel.gno rfl)); (focus (intro a W; go_simp)); (try simp only [List.nil_append, List.cons_append]))
      (refine Rel.opz (hn := ?_); (try simp only [List.nil_append, List.cons_append]))
      refine Rel.done3 ?_
      intro x w4 h4 hx
      simp only [Rel.facts, Nat.zero_add, Nat.reduceAdd] at hx
      obtain ⟨e0, e1, e2, e3, e4, e5, _, _, e8, ⟨B9, c9, e9, hc9, hi9, hf9⟩, ⟨gn, e10, hgn, hG10⟩, e11, _⟩ := hx
      have e8 : x 8 = _ := e8
      simp only [Rel.fill, Nat.zero_add, Nat.reduceAdd, e0, e1, e2, e3, e4, e5, e8, e9, e10, e11]
      simp only [Act.put, List.setIfInBounds_toArray, List.set_cons_zero, List.set_cons_succ]
      clear e0 e1 e2 e3 e4 e5 e8 e9 e10 e11
      have bg_4 := Lib.hid (KGB.out.below h4)
      have b6_4 := Lib.hid (K6B.out.below h4)
      have b7_4 := Lib.hid (KSB.out.below h4)
      have HB4 := Lib.hid (KB.out.trans (h4.mono KB.out.size))
      have HB4h := Lib.hid h4
      have bnz := Lib.hid (Calm.Blk.row hG10)
      have HG10 := Lib.hid hG10
      have HCN := Lib.hid hc9
      have HIN := Lib.hid hi9
      have HFN := Lib.hid hf9
      clear hc9 hi9 hf9 hG10 h4 g0 g1 g2 g3 g4 gl s0 s1 s2 sl
      obtain ⟨z0, z1, z2, zl, zf⟩ := bnz.out.o3
      go_wp2_with (at_builtin; refine name_list ?_; intro w5 e5; refine Hid.out ?_)
      have hb5 : Below wr.heap.size wr w5 := by rw [e5]; exact (((HB4h.out.setCell (p := ⟨gn, 0, none⟩) hgn _).setCell (p := ⟨gn, 1, none⟩) hgn _).setCell (p := ⟨gn, 2, none⟩) hgn _).alloc (by simpa using HB4h.out.size) _
      have bn5 := Lib.hid (show Blk w5 gn #[(.int .i64 H1), (.int .i64 V1), .slice B9 Q c9] by rw [e5]; exact (bnz.out.set3 _ _ _).alloc _)
      have KR5 := Lib.hid (show Blk w5 w4.heap.size #[(.int .i64 X)] by rw [e5]; exact Calm.Blk.at_ (by simp))
      have hz5 : w5.heap.size = w4.heap.size + 1 := by rw [e5]; simp
      have hne9 : 0 < P1.length → ∀ p, B9 = some p → p.block ≠ gn := fun _ p hp => (HIN.out p hp).ne HG10.out (by decide)
      have HC5 := Lib.hid (show Cells w5 B9 P1 by rw [e5]; exact (((HCN.out.sets hne9 0 _).sets hne9 1 _).sets hne9 2 _).below ((Below.refl _ _).alloc (Nat.le_refl _) _))
      have HO5 := Lib.hid (ownsRow_below HO.out hb5)
      have HZ5 := Lib.hid (ownsRow_below HZ.out hb5)
      have bg5 := Lib.hid (KGB.out.below hb5)
      have b65 := Lib.hid (K6B.out.below hb5)
      have b75 := Lib.hid (KSB.out.below hb5)
      have TY5 := Lib.hid (KTY.out.below hb5)
      have HB5 := Lib.hid (KB.out.trans (hb5.mono KB.out.size))
      have hlo := HO.out.lt
      have hlz := HZ.out.lt
      have hzr := hb5.size
      have hzw := KB.out.size
      have hb7 := KSB.out.lt
      have hb6 := K6B.out.lt
      have hbg := KGB.out.lt
      clear e5 hb5 z0 z1 z2 zl zf hne9
      unfold Hid
      refine wpList_app1 rfl _ _ rfl (gs7 + 1) _ k _ rfl HO5.out _ 1 X rfl (KR5.out.cell 0 _ rfl) (by omega) (by omega) ?_
      intro v6 w6 hown hgrow hpl
      have hno : ∀ j, (Value.slice C1 k d1).ownBlock = some j → gs7 + 1 ≤ j ∧ j < wr.heap.size := fun j hj => hlo j hj
      have hnz : ∀ j, (Value.slice C2 k d2).ownBlock = some j → gs7 + 1 ≤ j ∧ j < wr.heap.size := fun j hj => hlz j hj
      have HZ6 := Lib.hid (ownsRow_block HZ5.out (fun j hj => hgrow.block j (by have := hnz j hj; omega) (fun e => HAP.out j e.symm hj)))
      have HAP6 : Hid (Apt v6 (.slice C2 k d2)) := Lib.hid (fun j hj hz => by
        rcases hpl with q | q
        · exact HAP.out j (q ▸ hj) hz
        · have h1 := hnz j hz
          rw [q] at hj
          cases hj
          omega)
      have bg6 := Lib.hid (grown_blk bg5.out hgrow (fun j hj => by have := hno j hj; omega))
      have b66 := Lib.hid (grown_blk b65.out hgrow (fun j hj => by have := hno j hj; omega))
      have b76 := Lib.hid (grown_blk b75.out hgrow (fun j hj => by have := hno j hj; omega))
      have bn6 := Lib.hid (grown_blk bn5.out hgrow (fun j hj => by have := hno j hj; omega))
      have HB6 := Lib.hid (HB5.out.grown hgrow HB5.out.size (fun j hj => by have := hno j hj; omega))
      have HO6 := Lib.hid hown
      have hz6 : w5.heap.size ≤ w6.heap.size := hgrow.size
      have HC6 := Lib.hid (show Cells w6 B9 P1 by
        intro h0
        obtain ⟨b, off, hB, hl, hc⟩ := HC5.out h0
        have hfb := HFN.out _ hB
        have e : w6.heap[b]? = w5.heap[b]? := hgrow.block b hl (fun e => by have h1 := hno b e.symm; have h2 : wr.heap.size ≤ b := hfb; omega)
        exact ⟨b, off, hB, by omega, fun i hi => (World.cell?_of_block (w := w5) (a := ⟨b, off + i, none⟩) e).trans (hc i hi)⟩)
      have TY6 := Lib.hid (show IsTy w6 gs7 26 by
        obtain ⟨cs, hcs⟩ := TY5.out
        exact ⟨cs, (hgrow.block _ (by omega) (fun e => by have := hno _ e.symm; omega)).trans hcs⟩)
      clear hown hgrow hpl
      obtain ⟨z0, z1, z2, zl, -⟩ := bn6.out.o3
      go_wp2_with (at_builtin; refine name_list ?_; intro w7 e7; refine Hid.out ?_)
      have hb7' : Below w6.heap.size w6 w7 := by rw [e7]; exact (Below.refl _ _).alloc (Nat.le_refl _) _
      have KR7 := Lib.hid (show Blk w7 w6.heap.size #[(.int .i64 V1)] by rw [e7]; exact Calm.Blk.new _ _ _)
      have HO7 := Lib.hid (ownsRow_below HO6.out hb7')
      have HZ7 := Lib.hid (ownsRow_below HZ6.out hb7')
      have bg7 := Lib.hid (bg6.out.below hb7')
      have b67 := Lib.hid (b66.out.below hb7')
      have b77 := Lib.hid (b76.out.below hb7')
      have bn7 := Lib.hid (bn6.out.below hb7')
      have TY7 := Lib.hid (TY6.out.below hb7')
      have HC7 := Lib.hid (HC6.out.below hb7')
      have HB7 := Lib.hid (HB6.out.trans (hb7'.mono HB6.out.size))
      have hz7 := hb7'.size
      have hlo6 := HO6.out.lt
      clear e7 hb7' z0 z1 z2 zl
      unfold Hid
      refine wpList_app1 rfl _ _ rfl (gs7 + 1) _ k _ rfl HZ7.out _ 1 V1 rfl (KR7.out.cell 0 _ rfl) (by omega) (by omega) ?_
      intro v8 w8 hown hgrow hpl
      have HO8 := Lib.hid (ownsRow_block HO7.out (fun j hj => hgrow.block j (by have := hlo6 j hj; omega) (fun e => HAP6.out j hj e.symm)))
      have HAP8 : Hid (Apt v6 v8) := Lib.hid (fun j hj hz => by
        rcases hpl with q | q
        · exact HAP6.out j hj (q ▸ hz)
        · have h1 := hlo6 j hj
          rw [q] at hz
          cases hz
          omega)
      have bg8 := Lib.hid (grown_blk bg7.out hgrow (fun j hj => by have := hnz j hj; omega))
      have b68 := Lib.hid (grown_blk b67.out hgrow (fun j hj => by have := hnz j hj; omega))
      have b78 := Lib.hid (grown_blk b77.out hgrow (fun j hj => by have := hnz j hj; omega))
      have bn8 := Lib.hid (grown_blk bn7.out hgrow (fun j hj => by have := hnz j hj; omega))
      have HB8 := Lib.hid (HB7.out.grown hgrow HB7.out.size (fun j hj => by have := hnz j hj; omega))
      have HZ8 := Lib.hid hown
      have hz8 : w7.heap.size ≤ w8.heap.size := hgrow.size
      have HC8 := Lib.hid (show Cells w8 B9 P1 by
        intro h0
        obtain ⟨b, off, hB, hl, hc⟩ := HC7.out h0
        have hfb := HFN.out _ hB
        have e : w8.heap[b]? = w7.heap[b]? := hgrow.block b hl (fun e => by have h1 := hnz b e.symm; have h2 : wr.heap.size ≤ b := hfb; omega)
        exact ⟨b, off, hB, by omega, fun i hi => (World.cell?_of_block (w := w7) (a := ⟨b, off + i, none⟩) e).trans (hc i hi)⟩)
      have TY8 := Lib.hid (show IsTy w8 gs7 26 by
        obtain ⟨cs, hcs⟩ := TY7.out
        exact ⟨cs, (hgrow.block _ (by omega) (fun e => by have := hnz _ e.symm; omega)).trans hcs⟩)
      clear hown hgrow hpl
      obtain ⟨n0, n1, n2, nl, -⟩ := bn8.out.o3
      obtain ⟨s0, s1, s2, sl, sf⟩ := b78.out.o3
      go_wp2
      go_roundw
      case rel =>
        have q : ∀ p : Addr, B9 = some p → p.block ≠ gs7 := fun p hp => by have h1 : wr.heap.size ≤ p.block := HFN.out p hp; omega
        refine ⟨k + 1, B9, c9, by omega, by go_num, ?_, ?_, HAP8.out, ?_, ?_, ?_, ?_, fun p hp _ => q p hp, ((TY8.out.put 0 _).put 1 _).put 2 _, ((HB8.out.setCell (by simp; omega) _).setCell (by simp; omega) _).setCell (by simp; omega) _, by simp; omega⟩
        · rw [HOS.out, List.map_append]
          exact ownsRow_setCell_below (ownsRow_setCell_below (ownsRow_setCell_below HO8.out (by simp) _) (by simp) _) (by simp) _
        · rw [HZS.out, List.map_append]
          exact ownsRow_setCell_below (ownsRow_setCell_below (ownsRow_setCell_below HZ8.out (by simp) _) (by simp) _) (by simp) _
        · exact ((bg8.out.far (by simp; omega) _).far (by simp; omega) _).far (by simp; omega) _
        · exact ((b68.out.far (by simp; omega) _).far (by simp; omega) _).far (by simp; omega) _
        · rw [← HH1.out, ← HV1.out]; exact b78.out.set3 (.int .i64 H1) (.int .i64 V1) (.slice B9 Q c9)
        · rw [← HP1.out]; exact ((HC8.out.sets (fun _ => q) 0 _).sets (fun _ => q) 1 _).sets (fun _ => q) 2 _
      case measure => simp [intOf]; omega
    · obtain rfl : k = N := by omega
      clear hlt
      have hck := K6B.out
      go_wp2
      refine Rel.region3 5 (by kernel_rfl) (by kernel_rfl) (by kernel_rfl) ?_
      simp only [List.take_succ_cons, List.take_zero, List.drop_succ_cons, List.drop_zero, List.filterMap_cons, List.filterMap_nil]
      iterate 5 (refine Rel.opz (hn := ?_); (try simp only [List.nil_append, List.cons_append]))
      refine Rel.done3 ?_
      intro x w5 h5 hx
      simp only [Rel.facts, Nat.zero_add, Nat.reduceAdd] at hx
      obtain ⟨e0, e1, e2, e3, e4, _⟩ := hx
      simp only [Rel.fill, Nat.zero_add, Nat.reduceAdd, e0, e1, e2, e3, e4]
      simp only [Act.put, List.setIfInBounds_toArray, List.set_cons_zero, List.set_cons_succ]
      clear e0 e1 e2 e3 e4
      have b6_5 := Lib.hid (K6B.out.below h5)
      have b7_5 := Lib.hid (KSB.out.below h5)
      have HB5 := Lib.hid (KB.out.trans (h5.mono KB.out.size))
      have HBE2 := Lib.hid h5
      have HO9 := Lib.hid (ownsRow_below HO.out h5)
      have HZ9 := Lib.hid (ownsRow_below HZ.out h5)
      clear h5 g0 g1 g2 g3 g4 gl s0 s1 s2 sl hck
      obtain ⟨z0, z1, z2, zl, zf⟩ := b6_5.out.o3
      go_wp2
      obtain ⟨k0, k1, k2, -, -⟩ := (b6_5.out.set3 (.int .i64 ((stAt lk ht rc ts gs xs k).h)) (.int .i64 (((stAt lk ht rc ts gs xs k).lv : Int))) (.slice B Q c)).o3
      refine bodyPost_ret (v := .tuple #[.slice C1 k d1, .slice C2 k d2, .agg #[(.int .i64 ((stAt lk ht rc ts gs xs k).h)), (.int .i64 (((stAt lk ht rc ts gs xs k).lv : Int))), .slice B Q c]]) (by simp [results, Tryd.results89, go_sem, k0, k1, k2]) rfl ⟨_, rfl, ⟨_, _, _, rfl, ?_, ?_, ⟨_, _, _, _, _, rfl⟩⟩, ?_⟩
      · exact (own_ksi (outsK_len _ _ _ _ _ _ _).symm (ownsRow_setCell_below (ownsRow_setCell_below (ownsRow_setCell_below HO9.out (by simp; omega) _) (by simp; omega) _) (by simp; omega) _))
      · exact (own_ksi (lvsK_len _ _ _ _ _ _ _).symm (ownsRow_setCell_below (ownsRow_setCell_below (ownsRow_setCell_below HZ9.out (by simp; omega) _) (by simp; omega) _) (by simp; omega) _))
      · exact ((HB5.out.setCell (by simp) _).setCell (by simp) _).setCell (by simp) _
end Go.Proofs.YtdeapbihbhoefaaDoor

/- Run, once more: the slice of its outputs has room for them. -/
namespace Go.Proofs.YtdeapbihbhoefaaDoor
open Go.RowKit
open Calm (bcell Blk)
end Go.Proofs.YtdeapbihbhoefaaDoor

/- Contracts of the program as ProtectOpposite wants them. -/
namespace Go.Proofs.YtdeapbihbhoefaaDoor
open Go.RowKit
open Calm (bcell Blk)
theorem xSignal_K {n : Nat} {l : List Int} {u : Value} {W : World} (hn : n = l.length) (h5 : n ≤ 5000) (hu : KS n l u W) : Calls Tryd.prog 44 #[u] W (KP (KV (.int .i64 (sigErr l))) W) := by
  obtain ⟨A, c, rfl, hC⟩ := hu
  subst hn
  exact (pSignal_any l A c W hC h5).mono fun e W' ⟨k1, k2⟩ => ⟨_, k1, rfl, k2 ▸ Below.refl _ _⟩
theorem runErr_ok {lk ht rc : Int} {ts gs xs : List Int} (h1 : guardErr lk ht rc ts gs = 0) (h2 : sigErr xs = 0) : runErr lk ht rc ts gs xs = 0 := by
  unfold runErr
  exact firstOf_eq_zero.2 (by simp [h1, h2])
section
variable {lk ht rc : Int} {ts gs xs : List Int} {M L N : Nat} {a y : Value} {W : World} (hM : M = ts.length) (hL : L = gs.length) (hN : N = xs.length) (h1 : M ≤ 1000) (h2 : L ≤ 1000) (h3 : N ≤ 5000) (hLim : Lim W) (hu : KG lk ht rc M ts L gs a W) (hv : KS N xs y W) (g1 : guardErr lk ht rc ts gs = 0) (g2 : sigErr xs = 0)
include hM hL hN h1 h2 h3 hLim hu hv g1 g2
theorem xRun_ok : Calls Tryd.prog 40 #[a, y] W (KP (K2 (KS N (outsK lk ht rc ts gs xs N)) (KV (.int .i64 0))) W) := by
  have e0 := runErr_ok (lk := lk) (ht := ht) (rc := rc) (ts := ts) (gs := gs) g1 g2
  have e : runR lk ht rc ts gs xs = outsK lk ht rc ts gs xs N := by rw [hN]; exact if_pos e0
  have := cRun (N2 := N) hM hL hN h1 h2 h3 hLim hu hv (by rw [e]; exact (outsK_len _ _ _ _ _ _ _).symm)
  rwa [e, e0] at this
theorem xLevels_ok : Calls Tryd.prog 42 #[a, y] W (KP (K2 (KS N (lvsK lk ht rc ts gs xs N)) (KV (.int .i64 0))) W) := by
  have e0 := runErr_ok (lk := lk) (ht := ht) (rc := rc) (ts := ts) (gs := gs) g1 g2
  have e : lvsR lk ht rc ts gs xs = lvsK lk ht rc ts gs xs N := by rw [hN]; exact if_pos e0
  have := cLevels (N2 := N) hM hL hN h1 h2 h3 hLim hu hv (by rw [e]; exact (lvsK_len _ _ _ _ _ _ _).symm)
  rwa [e, e0] at this
end
theorem xPeaks_ok {lk ht rc : Int} {ts gs xs : List Int} {M L N : Nat} {a y : Value} {W : World} (hM : M = ts.length) (hL : L = gs.length) (hN : N = xs.length) (h1 : M ≤ 1000) (h2 : L ≤ 1000) (h3 : N ≤ 5000) (hu : KG lk ht rc M ts L gs a W) (hv : KS N xs y W) (g1 : guardErr lk ht rc ts gs = 0) (g2 : sigErr xs = 0) :
    Calls Tryd.prog 43 #[a, y] W (KP (K2 (KV (.agg #[(.int .i64 (pkH lk xs N)), (.int .i64 (pkX ts xs N))])) (KV (.int .i64 0))) W) := by
  have e0 := runErr_ok (lk := lk) (ht := ht) (rc := rc) (ts := ts) (gs := gs) g1 g2
  have := cPeaks hM hL hN h1 h2 h3 hu hv
  rwa [show pkHR lk ht rc ts gs xs = pkH lk xs N by rw [hN]; exact if_pos e0, show pkXR lk ht rc ts gs xs = pkX ts xs N by rw [hN]; exact if_pos e0, e0] at this
section
variable {lk ht rc : Int} {ts gs xs os : List Int} {M L N : Nat} {a y z : Value} {W : World} (hM : M = ts.length) (hL : L = gs.length) (hN : N = xs.length) (hN2 : N = os.length) (h1 : M ≤ 1000) (h2 : L ≤ 1000) (h3 : N ≤ 5000) (hLim : Lim W) (hu : KG lk ht rc M ts L gs a W) (hv : KS N xs y W) (hz : KS N os z W) (g1 : guardErr lk ht rc ts gs = 0) (g2 : sigErr xs = 0) (g3 : sigErr os = 0)
include hM hL hN hN2 h1 h2 h3 hLim hu hv hz g1 g2 g3
end
end Go.Proofs.YtdeapbihbhoefaaDoor

/- The reference's Run, Levels, CheckRun. -/
namespace Go.Proofs.YtdeapbihbhoefaaDoor
open Go.RowKit
open Calm (bcell Blk)
theorem rPlayed_K {lk ht rc : Int} {ts gs xs : List Int} {M L N : Nat} {u v : Value} {w : World} (hV : Valid lk ht rc ts gs) (hM : M = ts.length) (hL : L = gs.length) (hN : N = xs.length) (h5 : N ≤ 5000) (hx : inB 2048 xs) (hu : KG lk ht rc M ts L gs u w) (hv : KS N xs v w) :
    Calls Tryd.prog 89 #[u, v] w (KP (K3 (KSI N (outsK lk ht rc ts gs xs N)) (KSI N (lvsK lk ht rc ts gs xs N)) KW) w) := by
  obtain ⟨A1, c1, A2, c2, rfl, hT, hG⟩ := hu
  obtain ⟨A3, c3, rfl, hP⟩ := hv
  exact rPlayed_walk hV hM hL hN rfl h5 hx hT hG hP
set_option maxRecDepth 100000 in
set_option maxHeartbeats 2000000 in
theorem rRun_K {lk ht rc : Int} {ts gs xs : List Int} {M L N : Nat} {u v : Value} {w : World} (hV : Valid lk ht rc ts gs) (hM : M = ts.length) (hL : L = gs.length) (hN : N = xs.length) (h5 : N ≤ 5000) (hx : inB 2048 xs) (hu : KG lk ht rc M ts L gs u w) (hv : KS N xs v w) :
    Calls Tryd.prog 45 #[u, v] w (KP (KSI N (outsK lk ht rc ts gs xs N)) w) := by
  obtain ⟨A1, c1, A2, c2, rfl, hT, hG⟩ := hu
  obtain ⟨A3, c3, rfl, hP⟩ := hv
  have HU := Lib.hid (show KG lk ht rc M ts L gs (.agg #[(.int .i64 lk), (.int .i64 ht), .slice A1 M c1, (.int .i64 rc), .slice A2 L c2]) w from ⟨_, _, _, _, rfl, hT, hG⟩)
  have HX := Lib.hid (show KS N xs (.slice A3 N c3) w from ⟨_, _, rfl, hP⟩)
  have HPL : Hid (∀ {a y : Value} (W : World), KG lk ht rc M ts L gs a W → KS N xs y W → Calls Tryd.prog 89 #[a, y] W (KP (K3 (KSI N (outsK lk ht rc ts gs xs N)) (KSI N (lvsK lk ht rc ts gs xs N)) KW) W)) := Lib.hid (fun W q q2 => rPlayed_K hV hM hL hN h5 hx q q2)
  clear hT hG hP hV hM hL hN hx
  go_enter Tryd.func45, Tryd.ntmps45
  have HB0 := Lib.hid (Below.refl w.heap.size w)
  go_wp2_with (go_at_call 89; refine name_calls ?_; intro w1 e1; refine Hid.out ?_)
  unfold Hid
  have h1 : Below w.heap.size w w1 := by rw [e1]; exact bel
  have HB1 := Lib.hid (HB0.out.trans (h1.mono HB0.out.size))
  have bg_1 := Lib.hid (show Blk w1 w.heap.size #[(.int .i64 lk), (.int .i64 ht), .slice A1 M c1, (.int .i64 rc), .slice A2 L c2] from by rw [e1]; (repeat (first | ((with_reducible refine Blk.at_ ?_); focus (first | rfl | (simp; done) | (simp; omega))) | (with_reducible refine Blk.alloc ?_ _) | (with_reducible refine Blk.below ?_ (by with_reducible assumption)) | (with_reducible refine Blk.drew ?_))))
  clear e1 h1
  refine (HPL.out _ (KG.st _ _ _ _ _ _ _ _ _ _ HU.out HB1.out) (KS.st _ _ _ _ _ HX.out HB1.out)).mono ?_
  rintro r w2 ⟨v2, rfl, ⟨_, _, _, rfl, ⟨B1, d1, rfl, hc1, hi1⟩, ⟨B2, d2, rfl, hc2, hi2⟩, ⟨x1, x2, x3, x4, x5, rfl⟩⟩, h2⟩
  have HC := Lib.hid (show KSI N (outsK lk ht rc ts gs xs N) (.slice B1 N d1) w2 from ⟨_, _, rfl, hc1, hi1⟩)
  have HB2 := Lib.hid (HB1.out.trans (h2.mono HB1.out.size))
  clear hc1 hc2 hi1 hi2 h2
  go_wp2
  go_ret
  exact ⟨_, by first | rfl | (simp; done), (KSI.ik _ _).st _ _ _ HC.out ((Below.refl _ _).alloc (Nat.le_refl _) _), HB2.out.alloc HB2.out.size _⟩
set_option maxRecDepth 100000 in
set_option maxHeartbeats 2000000 in
theorem rLevels_K {lk ht rc : Int} {ts gs xs : List Int} {M L N : Nat} {u v : Value} {w : World} (hV : Valid lk ht rc ts gs) (hM : M = ts.length) (hL : L = gs.length) (hN : N = xs.length) (h5 : N ≤ 5000) (hx : inB 2048 xs) (hu : KG lk ht rc M ts L gs u w) (hv : KS N xs v w) :
    Calls Tryd.prog 46 #[u, v] w (KP (KSI N (lvsK lk ht rc ts gs xs N)) w) := by
  obtain ⟨A1, c1, A2, c2, rfl, hT, hG⟩ := hu
  obtain ⟨A3, c3, rfl, hP⟩ := hv
  have HU := Lib.hid (show KG lk ht rc M ts L gs (.agg #[(.int .i64 lk), (.int .i64 ht), .slice A1 M c1, (.int .i64 rc), .slice A2 L c2]) w from ⟨_, _, _, _, rfl, hT, hG⟩)
  have HX := Lib.hid (show KS N xs (.slice A3 N c3) w from ⟨_, _, rfl, hP⟩)
  have HPL : Hid (∀ {a y : Value} (W : World), KG lk ht rc M ts L gs a W → KS N xs y W → Calls Tryd.prog 89 #[a, y] W (KP (K3 (KSI N (outsK lk ht rc ts gs xs N)) (KSI N (lvsK lk ht rc ts gs xs N)) KW) W)) := Lib.hid (fun W q q2 => rPlayed_K hV hM hL hN h5 hx q q2)
  clear hT hG hP hV hM hL hN hx
  go_enter Tryd.func46, Tryd.ntmps46
  have HB0 := Lib.hid (Below.refl w.heap.size w)
  go_wp2_with (go_at_call 89; refine name_calls ?_; intro w1 e1; refine Hid.out ?_)
  unfold Hid
  have h1 : Below w.heap.size w w1 := by rw [e1]; exact bel
  have HB1 := Lib.hid (HB0.out.trans (h1.mono HB0.out.size))
  have bg_1 := Lib.hid (show Blk w1 w.heap.size #[(.int .i64 lk), (.int .i64 ht), .slice A1 M c1, (.int .i64 rc), .slice A2 L c2] from by rw [e1]; (repeat (first | ((with_reducible refine Blk.at_ ?_); focus (first | rfl | (simp; done) | (simp; omega))) | (with_reducible refine Blk.alloc ?_ _) | (with_reducible refine Blk.below ?_ (by with_reducible assumption)) | (with_reducible refine Blk.drew ?_))))
  clear e1 h1
  refine (HPL.out _ (KG.st _ _ _ _ _ _ _ _ _ _ HU.out HB1.out) (KS.st _ _ _ _ _ HX.out HB1.out)).mono ?_
  rintro r w2 ⟨v2, rfl, ⟨_, _, _, rfl, ⟨B1, d1, rfl, hc1, hi1⟩, ⟨B2, d2, rfl, hc2, hi2⟩, ⟨x1, x2, x3, x4, x5, rfl⟩⟩, h2⟩
  have HC := Lib.hid (show KSI N (lvsK lk ht rc ts gs xs N) (.slice B2 N d2) w2 from ⟨_, _, rfl, hc2, hi2⟩)
  have HB2 := Lib.hid (HB1.out.trans (h2.mono HB1.out.size))
  clear hc1 hc2 hi1 hi2 h2
  go_wp2
  go_ret
  exact ⟨_, by first | rfl | (simp; done), (KSI.ik _ _).st _ _ _ HC.out ((Below.refl _ _).alloc (Nat.le_refl _) _), HB2.out.alloc HB2.out.size _⟩
end Go.Proofs.YtdeapbihbhoefaaDoor

/- What ProtectProofs wants: Few, and the reference's CheckRun in one contract. -/
namespace Go.Proofs.YtdeapbihbhoefaaDoor
open Go.RowKit
open Calm (bcell Blk)
theorem Few_K {n : Nat} {l : List Int} {u : Value} {W : World} (hu : KS n l u W) : Calls Tryd.prog 39 #[u] W (KP (KV (.bool (decide (n ≤ 40 ∨ n = 4097)))) W) := by
  obtain ⟨A, c, rfl, _⟩ := hu
  by_cases h1 : n ≤ 40
  · have h1i : (n : Int) ≤ 40 := by omega
    rw [decide_eq_true (Or.inl h1)]
    clear h1
    go_enter Tryd.func39, Tryd.ntmps39
    go_wp2
    go_ret
    exact ⟨_, by first | rfl | (simp; done), rfl, Below.refl _ _⟩
  · have h1i : ¬ (n : Int) ≤ 40 := by omega
    by_cases h2 : n = 4097
    · subst h2
      go_enter Tryd.func39, Tryd.ntmps39
      go_wp2
      go_ret
      exact ⟨_, by first | rfl | (simp; done), rfl, Below.refl _ _⟩
    · have h2i : ((n : Int) == 4097) = false := by simp; omega
      rw [decide_eq_false (by omega)]
      clear h1 h2
      go_enter Tryd.func39, Tryd.ntmps39
      go_wp2
      go_ret
      exact ⟨_, by first | rfl | (simp; done), rfl, Below.refl _ _⟩
end Go.Proofs.YtdeapbihbhoefaaDoor

/- Contracts as ProtectRuns wants them. -/
namespace Go.Proofs.YtdeapbihbhoefaaDoor
open Go.RowKit
open Calm (bcell Blk)
section
variable {lk ht rc : Int} {ts gs xs : List Int} {M L N : Nat} {a y : Value} {W : World} (hM : M = ts.length) (hL : L = gs.length) (hN : N = xs.length) (h1 : M ≤ 1000) (h2 : L ≤ 1000) (h3 : N ≤ 5000) (hLim : Lim W) (hu : KG lk ht rc M ts L gs a W) (hv : KS N xs y W) (e0 : ¬ runErr lk ht rc ts gs xs = 0)
include hM hL hN h1 h2 h3 hLim hu hv e0
theorem xRun_bad : Calls Tryd.prog 40 #[a, y] W (KP (K2 (KS 0 []) (KV (.int .i64 (runErr lk ht rc ts gs xs)))) W) := by
  have e : runR lk ht rc ts gs xs = [] := if_neg e0
  have := cRun (N2 := 0) hM hL hN h1 h2 h3 hLim hu hv (by rw [e]; rfl)
  rwa [e] at this
theorem xLevels_bad : Calls Tryd.prog 42 #[a, y] W (KP (K2 (KS 0 []) (KV (.int .i64 (runErr lk ht rc ts gs xs)))) W) := by
  have e : lvsR lk ht rc ts gs xs = [] := if_neg e0
  have := cLevels (N2 := 0) hM hL hN h1 h2 h3 hLim hu hv (by rw [e]; rfl)
  rwa [e] at this
end
theorem xPeaks_bad {lk ht rc : Int} {ts gs xs : List Int} {M L N : Nat} {a y : Value} {W : World} (hM : M = ts.length) (hL : L = gs.length) (hN : N = xs.length) (h1 : M ≤ 1000) (h2 : L ≤ 1000) (h3 : N ≤ 5000) (hu : KG lk ht rc M ts L gs a W) (hv : KS N xs y W) (e0 : ¬ runErr lk ht rc ts gs xs = 0) :
    Calls Tryd.prog 43 #[a, y] W (KP (K2 (KV (.agg #[(.int .i64 0), (.int .i64 0)])) (KV (.int .i64 (runErr lk ht rc ts gs xs)))) W) := by
  have := cPeaks hM hL hN h1 h2 h3 hu hv
  rwa [show pkHR lk ht rc ts gs xs = 0 from if_neg e0, show pkXR lk ht rc ts gs xs = 0 from if_neg e0] at this
end Go.Proofs.YtdeapbihbhoefaaDoor

/- ProtectRuns, case 0. -/
namespace Go.Proofs.YtdeapbihbhoefaaDoor
open Go.RowKit
open Calm (bcell Blk)
set_option maxRecDepth 100000 in
set_option maxHeartbeats 8000000 in
theorem runs_0 (lk ht rc : Int) (M L N : Nat) (ts gs xs : List Int) (u v : Value) (w : World) (hTab : PTab w) (hM : M = ts.length) (hL : L = gs.length) (hN : N = xs.length) (b0 : ¬ (M ≤ 9 ∧ L ≤ 9)) (hu : KG lk ht rc M ts L gs u w) (hv : KS N xs v w) :
    Calls Tryd.prog 5 #[u, v] w fun r w' => r = .returned (.bool true) ∧ Below w.heap.size w w' := by
  obtain ⟨A1, c1, A2, c2, rfl, hT, hG⟩ := hu
  obtain ⟨A3, c3, rfl, hP⟩ := hv
  have HU := Lib.hid (show KG lk ht rc M ts L gs (.agg #[(.int .i64 lk), (.int .i64 ht), .slice A1 M c1, (.int .i64 rc), .slice A2 L c2]) w from ⟨_, _, _, _, rfl, hT, hG⟩)
  have HX := Lib.hid (show KS N xs (.slice A3 N c3) w from ⟨_, _, rfl, hP⟩)
  have HSH : Hid (∀ W, KG lk ht rc M ts L gs (.agg #[(.int .i64 lk), (.int .i64 ht), .slice A1 M c1, (.int .i64 rc), .slice A2 L c2]) W → Calls Tryd.prog 13 #[.agg #[(.int .i64 lk), (.int .i64 ht), .slice A1 M c1, (.int .i64 rc), .slice A2 L c2]] W (KP (KV (.bool false)) W)) := Lib.hid (fun W q => by have := Short_K q; rwa [decide_eq_false b0] at this)
  have HTab := Lib.hid hTab
  clear hTab hM hL hN hT hG hP b0
  go_enter Tryd.func5, Tryd.ntmps5
  have HB0 := Lib.hid (Below.refl w.heap.size w)
  go_wp2_with (go_at_call 13; refine name_calls ?_; intro w1 e1; refine Hid.out ?_)
  unfold Hid
  have h1 : Below w.heap.size w w1 := by rw [e1]; exact bel
  have HB1 := Lib.hid (HB0.out.trans (h1.mono HB0.out.size))
  have bg_1 := Lib.hid (show Blk w1 w.heap.size #[(.int .i64 lk), (.int .i64 ht), .slice A1 M c1, (.int .i64 rc), .slice A2 L c2] from by rw [e1]; (repeat (first | ((with_reducible refine Blk.at_ ?_); focus (first | rfl | (simp; done) | (simp; omega))) | (with_reducible refine Blk.alloc ?_ _) | (with_reducible refine Blk.below ?_ (by with_reducible assumption)) | (with_reducible refine Blk.drew ?_))))
  clear e1 h1
  refine (HSH.out _ (KG.st _ _ _ _ _ _ _ _ _ _ HU.out HB1.out)).mono ?_
  rintro r w2 ⟨v2, rfl, k2, h2⟩
  have bg_2 := Lib.hid (bg_1.out.below h2)
  have HB2 := Lib.hid (HB1.out.trans (h2.mono HB1.out.size))
  obtain rfl := k2
  clear h2
  have ug_rw2 := Lib.hid (KG.st _ _ _ _ _ _ _ _ _ _ HU.out HB2.out)
  have ux_rw2 := Lib.hid (KS.st _ _ _ _ _ HX.out HB2.out)
  have HTabw2 := Lib.hid (HTab.out.below HB2.out)
  have HZw2 := Lib.hid (Below.refl w2.heap.size w2)
  clear HU HX HTab
  go_wp2_with (go_at_call 15; refine name_calls ?_; intro w3 e3; refine Hid.out ?_)
  unfold Hid
  have h3 : Below w2.heap.size w2 w3 := by rw [e3]; exact bel
  have HB3 := Lib.hid (HZw2.out.trans (h3.mono HZw2.out.size))
  clear e3 h3
  refine (awake_any _ (HTabw2.out.below HB3.out)).mono ?_
  rintro r w4 ⟨rfl, h4⟩
  have HB4 := Lib.hid (HB3.out.trans (h4.mono HB3.out.size))
  clear h4
  go_wp2
  go_ret
  exact ⟨by first | rfl | (simp; done), HB2.out.trans (HB4.out.mono HB2.out.size)⟩
end Go.Proofs.YtdeapbihbhoefaaDoor

/- ProtectRuns, case 1. -/
namespace Go.Proofs.YtdeapbihbhoefaaDoor
open Go.RowKit
open Calm (bcell Blk)
set_option maxRecDepth 100000 in
set_option maxHeartbeats 8000000 in
theorem runs_1 (lk ht rc : Int) (M L N : Nat) (ts gs xs : List Int) (u v : Value) (w : World) (hTab : PTab w) (hM : M = ts.length) (hL : L = gs.length) (hN : N = xs.length) (b0 : M ≤ 9 ∧ L ≤ 9) (b1 : ¬ (N ≤ 40 ∨ N = 4097)) (hu : KG lk ht rc M ts L gs u w) (hv : KS N xs v w) :
    Calls Tryd.prog 5 #[u, v] w fun r w' => r = .returned (.bool true) ∧ Below w.heap.size w w' := by
  obtain ⟨A1, c1, A2, c2, rfl, hT, hG⟩ := hu
  obtain ⟨A3, c3, rfl, hP⟩ := hv
  have HU := Lib.hid (show KG lk ht rc M ts L gs (.agg #[(.int .i64 lk), (.int .i64 ht), .slice A1 M c1, (.int .i64 rc), .slice A2 L c2]) w from ⟨_, _, _, _, rfl, hT, hG⟩)
  have HX := Lib.hid (show KS N xs (.slice A3 N c3) w from ⟨_, _, rfl, hP⟩)
  have HSH : Hid (∀ W, KG lk ht rc M ts L gs (.agg #[(.int .i64 lk), (.int .i64 ht), .slice A1 M c1, (.int .i64 rc), .slice A2 L c2]) W → Calls Tryd.prog 13 #[.agg #[(.int .i64 lk), (.int .i64 ht), .slice A1 M c1, (.int .i64 rc), .slice A2 L c2]] W (KP (KV (.bool true)) W)) := Lib.hid (fun W q => by have := Short_K q; rwa [decide_eq_true b0] at this)
  have HF1 : Hid (∀ {x : Value} (W : World), KS N xs x W → Calls Tryd.prog 39 #[x] W (KP (KV (.bool false)) W)) := Lib.hid (fun W q => by have := Few_K q; rwa [decide_eq_false b1] at this)
  have HTab := Lib.hid hTab
  clear hTab hM hL hN hT hG hP b1
  go_enter Tryd.func5, Tryd.ntmps5
  have HB0 := Lib.hid (Below.refl w.heap.size w)
  go_wp2_with (go_at_call 13; refine name_calls ?_; intro w1 e1; refine Hid.out ?_)
  unfold Hid
  have h1 : Below w.heap.size w w1 := by rw [e1]; exact bel
  have HB1 := Lib.hid (HB0.out.trans (h1.mono HB0.out.size))
  have bg_1 := Lib.hid (show Blk w1 w.heap.size #[(.int .i64 lk), (.int .i64 ht), .slice A1 M c1, (.int .i64 rc), .slice A2 L c2] from by rw [e1]; (repeat (first | ((with_reducible refine Blk.at_ ?_); focus (first | rfl | (simp; done) | (simp; omega))) | (with_reducible refine Blk.alloc ?_ _) | (with_reducible refine Blk.below ?_ (by with_reducible assumption)) | (with_reducible refine Blk.drew ?_))))
  clear e1 h1
  refine (HSH.out _ (KG.st _ _ _ _ _ _ _ _ _ _ HU.out HB1.out)).mono ?_
  rintro r w2 ⟨v2, rfl, k2, h2⟩
  have bg_2 := Lib.hid (bg_1.out.below h2)
  have HB2 := Lib.hid (HB1.out.trans (h2.mono HB1.out.size))
  obtain rfl := k2
  clear h2
  have ug_rw2 := Lib.hid (KG.st _ _ _ _ _ _ _ _ _ _ HU.out HB2.out)
  have ux_rw2 := Lib.hid (KS.st _ _ _ _ _ HX.out HB2.out)
  have HTabw2 := Lib.hid (HTab.out.below HB2.out)
  have HZw2 := Lib.hid (Below.refl w2.heap.size w2)
  clear HU HX HTab
  go_wp2_with (go_at_call 39; refine name_calls ?_; intro w3 e3; refine Hid.out ?_)
  unfold Hid
  have h3 : Below w2.heap.size w2 w3 := by rw [e3]; exact bel
  have HB3 := Lib.hid (HZw2.out.trans (h3.mono HZw2.out.size))
  clear e3 h3
  refine (HF1.out _ (KS.st _ _ _ _ _ ux_rw2.out HB3.out)).mono ?_
  rintro r w4 ⟨v4, rfl, k4, h4⟩
  have HB4 := Lib.hid (HB3.out.trans (h4.mono HB3.out.size))
  obtain rfl := k4
  clear h4
  go_wp2_with (go_at_call 15; refine name_calls ?_; intro w5 e5; refine Hid.out ?_)
  unfold Hid
  have h5 : Below w4.heap.size w4 w5 := by rw [e5]; exact bel
  have HB5 := Lib.hid (HB4.out.trans (h5.mono HB4.out.size))
  clear e5 h5
  refine (awake_any _ (HTabw2.out.below HB5.out)).mono ?_
  rintro r w6 ⟨rfl, h6⟩
  have HB6 := Lib.hid (HB5.out.trans (h6.mono HB5.out.size))
  clear h6
  go_wp2
  go_ret
  exact ⟨by first | rfl | (simp; done), HB2.out.trans (HB6.out.mono HB2.out.size)⟩
end Go.Proofs.YtdeapbihbhoefaaDoor

/- ProtectRuns, case e. -/
namespace Go.Proofs.YtdeapbihbhoefaaDoor
open Go.RowKit
open Calm (bcell Blk)
set_option maxRecDepth 100000 in
set_option maxHeartbeats 8000000 in
theorem runs_e (lk ht rc : Int) (M L N : Nat) (ts gs xs : List Int) (u v : Value) (w : World) (hTab : PTab w) (hM : M = ts.length) (hL : L = gs.length) (hN : N = xs.length) (b0 : M ≤ 9 ∧ L ≤ 9) (b1 : N ≤ 40 ∨ N = 4097) (b2 : ¬ runErr lk ht rc ts gs xs = 0) (hu : KG lk ht rc M ts L gs u w) (hv : KS N xs v w) :
    Calls Tryd.prog 5 #[u, v] w fun r w' => r = .returned (.bool true) ∧ Below w.heap.size w w' := by
  obtain ⟨A1, c1, A2, c2, rfl, hT, hG⟩ := hu
  obtain ⟨A3, c3, rfl, hP⟩ := hv
  have HU := Lib.hid (show KG lk ht rc M ts L gs (.agg #[(.int .i64 lk), (.int .i64 ht), .slice A1 M c1, (.int .i64 rc), .slice A2 L c2]) w from ⟨_, _, _, _, rfl, hT, hG⟩)
  have HX := Lib.hid (show KS N xs (.slice A3 N c3) w from ⟨_, _, rfl, hP⟩)
  have HSH : Hid (∀ W, KG lk ht rc M ts L gs (.agg #[(.int .i64 lk), (.int .i64 ht), .slice A1 M c1, (.int .i64 rc), .slice A2 L c2]) W → Calls Tryd.prog 13 #[.agg #[(.int .i64 lk), (.int .i64 ht), .slice A1 M c1, (.int .i64 rc), .slice A2 L c2]] W (KP (KV (.bool true)) W)) := Lib.hid (fun W q => by have := Short_K q; rwa [decide_eq_true b0] at this)
  have HF1 : Hid (∀ {x : Value} (W : World), KS N xs x W → Calls Tryd.prog 39 #[x] W (KP (KV (.bool true)) W)) := Lib.hid (fun W q => by have := Few_K q; rwa [decide_eq_true b1] at this)
  obtain ⟨b01, b02⟩ := b0
  have hn5 : N ≤ 5000 := by omega
  have HGU : Hid (∀ {x : Value} (W : World), KG lk ht rc M ts L gs x W → Calls Tryd.prog 17 #[x] W (KP (KGI lk ht rc M ts L gs) W)) := Lib.hid (fun W q => guard_K hM hL (by omega) (by omega) q)
  have HIN : Hid (∀ {x : Value} (W : World), KS N xs x W → Calls Tryd.prog 41 #[x] W (KP (KSI N xs) W)) := Lib.hid (fun W q => ints_K hN (by omega) q)
  obtain ⟨E, hE⟩ : ∃ E, E = runErr lk ht rc ts gs xs := ⟨_, rfl⟩
  have hE0 : (E == 0) = false := by rw [hE]; simpa using b2
  have HSI : Hid (∀ {x y : Value} (W : World), KS 0 [] x W → KS 0 [] y W → Calls Tryd.prog 38 #[x, y] W (KP (KV (.bool true)) W)) := Lib.hid (fun W q q2 => same_T (n := 0) (m := 0) (a := []) (b := []) rfl rfl rfl (by omega) q q2)
  have HR1 : Hid (∀ {a y : Value} (W : World), Lim W → KG lk ht rc M ts L gs a W → KS N xs y W → Calls Tryd.prog 40 #[a, y] W (KP (K2 (KS 0 []) (KV (.int .i64 E))) W)) := Lib.hid (fun W q0 q q2 => by rw [hE]; exact xRun_bad hM hL hN (by omega) (by omega) hn5 q0 q q2 b2)
  have HL1 : Hid (∀ {a y : Value} (W : World), Lim W → KG lk ht rc M ts L gs a W → KS N xs y W → Calls Tryd.prog 42 #[a, y] W (KP (K2 (KS 0 []) (KV (.int .i64 E))) W)) := Lib.hid (fun W q0 q q2 => by rw [hE]; exact xLevels_bad hM hL hN (by omega) (by omega) hn5 q0 q q2 b2)
  have HP1 : Hid (∀ {a y : Value} (W : World), KG lk ht rc M ts L gs a W → KS N xs y W → Calls Tryd.prog 43 #[a, y] W (KP (K2 (KV (.agg #[(.int .i64 0), (.int .i64 0)])) (KV (.int .i64 E))) W)) := Lib.hid (fun W q q2 => by rw [hE]; exact xPeaks_bad hM hL hN (by omega) (by omega) hn5 q q2 b2)
  obtain ⟨GE, hGE⟩ : ∃ GE, GE = guardErr lk ht rc ts gs := ⟨_, rfl⟩
  obtain ⟨SE, hSE⟩ : ∃ SE, SE = sigErr xs := ⟨_, rfl⟩
  have HCG : Hid (∀ {x : Value} (W : World), KG lk ht rc M ts L gs x W → Calls Tryd.prog 18 #[x] W (KP (KV (.int .i64 GE)) W)) := Lib.hid (fun W q => by rw [hGE]; exact rGuard_K hM hL (by omega) (by omega) q)
  have HCX : Hid (∀ {x : Value} (W : World), KS N xs x W → Calls Tryd.prog 44 #[x] W (KP (KV (.int .i64 SE)) W)) := Lib.hid (fun W q => by rw [hSE]; exact xSignal_K hN hn5 q)
  have HFI : Hid (∀ (g : Nat) (W : World), W.heap[g]? = some (.cells #[(.int .i64 GE), (.int .i64 SE)] 3 (0, 0)) → Calls Tryd.prog 31 #[.slice (some ⟨g, 0, none⟩) 2 2] W (KP (KV (.int .i64 E)) W)) := Lib.hid (fun g W h => by
    rw [show (E : Int) = firstOf [GE, SE] by rw [hE, hGE, hSE]; rfl]
    exact xFirst2_K h)
  have HTab := Lib.hid hTab
  clear hTab hM hL hN hT hG hP b1 b2 hn5 hE hGE hSE
  go_enter Tryd.func5, Tryd.ntmps5
  have HB0 := Lib.hid (Below.refl w.heap.size w)
  go_wp2_with (go_at_call 13; refine name_calls ?_; intro w1 e1; refine Hid.out ?_)
  unfold Hid
  have h1 : Below w.heap.size w w1 := by rw [e1]; exact bel
  have HB1 := Lib.hid (HB0.out.trans (h1.mono HB0.out.size))
  have bg_1 := Lib.hid (show Blk w1 w.heap.size #[(.int .i64 lk), (.int .i64 ht), .slice A1 M c1, (.int .i64 rc), .slice A2 L c2] from by rw [e1]; (repeat (first | ((with_reducible refine Blk.at_ ?_); focus (first | rfl | (simp; done) | (simp; omega))) | (with_reducible refine Blk.alloc ?_ _) | (with_reducible refine Blk.below ?_ (by with_reducible assumption)) | (with_reducible refine Blk.drew ?_))))
  clear e1 h1
  refine (HSH.out _ (KG.st _ _ _ _ _ _ _ _ _ _ HU.out HB1.out)).mono ?_
  rintro r w2 ⟨v2, rfl, k2, h2⟩
  have bg_2 := Lib.hid (bg_1.out.below h2)
  have HB2 := Lib.hid (HB1.out.trans (h2.mono HB1.out.size))
  obtain rfl := k2
  clear h2
  have ug_rw2 := Lib.hid (KG.st _ _ _ _ _ _ _ _ _ _ HU.out HB2.out)
  have ux_rw2 := Lib.hid (KS.st _ _ _ _ _ HX.out HB2.out)
  have HTabw2 := Lib.hid (HTab.out.below HB2.out)
  have HZw2 := Lib.hid (Below.refl w2.heap.size w2)
  clear HU HX HTab
  go_wp2_with (go_at_call 39; refine name_calls ?_; intro w3 e3; refine Hid.out ?_)
  unfold Hid
  have h3 : Below w2.heap.size w2 w3 := by rw [e3]; exact bel
  have HB3 := Lib.hid (HZw2.out.trans (h3.mono HZw2.out.size))
  clear e3 h3
  refine (HF1.out _ (KS.st _ _ _ _ _ ux_rw2.out HB3.out)).mono ?_
  rintro r w4 ⟨v4, rfl, k4, h4⟩
  have HB4 := Lib.hid (HB3.out.trans (h4.mono HB3.out.size))
  obtain rfl := k4
  clear h4
  have ug_rw4 := Lib.hid (KG.st _ _ _ _ _ _ _ _ _ _ ug_rw2.out HB4.out)
  have ux_rw4 := Lib.hid (KS.st _ _ _ _ _ ux_rw2.out HB4.out)
  have bg_rw4 := Lib.hid (bg_2.out.below HB4.out)
  have HTabw4 := Lib.hid (HTabw2.out.below HB4.out)
  have HOw4 := Lib.hid (HB2.out.trans (HB4.out.mono HB2.out.size))
  have HZw4 := Lib.hid (Below.refl w4.heap.size w4)
  clear HB4 ug_rw2 ux_rw2 bg_2 HTabw2 HB2
  obtain ⟨fbg_0, fbg_1, fbg_2, fbg_3, fbg_4, fbg_l, -⟩ := (bg_rw4.out.below HZw4.out).o5
  go_wp2_with (go_at_call 17; refine name_calls ?_; intro w5 e5; refine Hid.out ?_)
  unfold Hid
  have h5 : Below w4.heap.size w4 w5 := by rw [e5]; exact bel
  have HB5 := Lib.hid (HZw4.out.trans (h5.mono HZw4.out.size))
  clear e5 h5
  refine (HGU.out _ (KG.st _ _ _ _ _ _ _ _ _ _ ug_rw4.out HB5.out)).mono ?_
  rintro r w6 ⟨v6, rfl, k6, h6⟩
  have HB6 := Lib.hid (HB5.out.trans (h6.mono HB5.out.size))
  have g_6 := Lib.hid k6
  clear k6 h6
  clear fbg_0 fbg_1 fbg_2 fbg_3 fbg_4 fbg_l
  go_wp2_with (go_at_call 41; refine name_calls ?_; intro w7 e7; refine Hid.out ?_)
  unfold Hid
  have h7 : Below w6.heap.size w6 w7 := by rw [e7]; exact bel
  have g_7 := Lib.hid ((KGI.ik _ _ _ _ _ _ _).st _ _ _ g_6.out h7)
  have HB7 := Lib.hid (HB6.out.trans (h7.mono HB6.out.size))
  clear e7 h7
  refine (HIN.out _ (KS.st _ _ _ _ _ ux_rw4.out HB7.out)).mono ?_
  rintro r w8 ⟨v8, rfl, k8, h8⟩
  have g_8 := Lib.hid ((KGI.ik _ _ _ _ _ _ _).st _ _ _ g_7.out h8)
  have HB8 := Lib.hid (HB7.out.trans (h8.mono HB7.out.size))
  have i_8 := Lib.hid k8
  clear k8 h8
  go_wp2_with (go_at_call 40; refine name_calls ?_; intro w9 e9; refine Hid.out ?_)
  unfold Hid
  have h9 : Below w8.heap.size w8 w9 := by rw [e9]; exact bel
  have g_9 := Lib.hid ((KGI.ik _ _ _ _ _ _ _).st _ _ _ g_8.out h9)
  have i_9 := Lib.hid ((KSI.ik N xs).st _ _ _ i_8.out h9)
  have HB9 := Lib.hid (HB8.out.trans (h9.mono HB8.out.size))
  clear e9 h9
  refine (HR1.out _ (HTabw4.out.below HB9.out).lim g_9.out.kg i_9.out.ks).mono ?_
  rintro r w10 ⟨v10, rfl, k10, h10⟩
  have g_10 := Lib.hid ((KGI.ik _ _ _ _ _ _ _).st _ _ _ g_9.out h10)
  have i_10 := Lib.hid ((KSI.ik N xs).st _ _ _ i_9.out h10)
  have HB10 := Lib.hid (HB9.out.trans (h10.mono HB9.out.size))
  obtain ⟨_, _, rfl, ⟨QA, QAc, rfl, q10⟩, rfl⟩ := k10
  have a_10 := Lib.hid (show KS 0 [] (.slice QA 0 QAc) w10 from ⟨_, _, rfl, q10⟩)
  clear q10 h10
  obtain ⟨fbg_0, fbg_1, fbg_2, fbg_3, fbg_4, fbg_l, -⟩ := (bg_rw4.out.below HB10.out).o5
  go_wp2_with (go_at_call 17; refine name_calls ?_; intro w11 e11; refine Hid.out ?_)
  unfold Hid
  have h11 : Below w10.heap.size w10 w11 := by rw [e11]; exact bel
  have a_11 := Lib.hid (KS.st _ _ _ _ _ a_10.out h11)
  have HB11 := Lib.hid (HB10.out.trans (h11.mono HB10.out.size))
  clear e11 h11
  refine (HGU.out _ (KG.st _ _ _ _ _ _ _ _ _ _ ug_rw4.out HB11.out)).mono ?_
  rintro r w12 ⟨v12, rfl, k12, h12⟩
  have a_12 := Lib.hid (KS.st _ _ _ _ _ a_11.out h12)
  have HB12 := Lib.hid (HB11.out.trans (h12.mono HB11.out.size))
  have g_12 := Lib.hid k12
  clear k12 h12
  clear fbg_0 fbg_1 fbg_2 fbg_3 fbg_4 fbg_l
  go_wp2_with (go_at_call 41; refine name_calls ?_; intro w13 e13; refine Hid.out ?_)
  unfold Hid
  have h13 : Below w12.heap.size w12 w13 := by rw [e13]; exact bel
  have a_13 := Lib.hid (KS.st _ _ _ _ _ a_12.out h13)
  have g_13 := Lib.hid ((KGI.ik _ _ _ _ _ _ _).st _ _ _ g_12.out h13)
  have HB13 := Lib.hid (HB12.out.trans (h13.mono HB12.out.size))
  clear e13 h13
  refine (HIN.out _ (KS.st _ _ _ _ _ ux_rw4.out HB13.out)).mono ?_
  rintro r w14 ⟨v14, rfl, k14, h14⟩
  have a_14 := Lib.hid (KS.st _ _ _ _ _ a_13.out h14)
  have g_14 := Lib.hid ((KGI.ik _ _ _ _ _ _ _).st _ _ _ g_13.out h14)
  have HB14 := Lib.hid (HB13.out.trans (h14.mono HB13.out.size))
  have i_14 := Lib.hid k14
  clear k14 h14
  go_wp2_with (go_at_call 42; refine name_calls ?_; intro w15 e15; refine Hid.out ?_)
  unfold Hid
  have h15 : Below w14.heap.size w14 w15 := by rw [e15]; exact bel
  have a_15 := Lib.hid (KS.st _ _ _ _ _ a_14.out h15)
  have g_15 := Lib.hid ((KGI.ik _ _ _ _ _ _ _).st _ _ _ g_14.out h15)
  have i_15 := Lib.hid ((KSI.ik N xs).st _ _ _ i_14.out h15)
  have HB15 := Lib.hid (HB14.out.trans (h15.mono HB14.out.size))
  clear e15 h15
  refine (HL1.out _ (HTabw4.out.below HB15.out).lim g_15.out.kg i_15.out.ks).mono ?_
  rintro r w16 ⟨v16, rfl, k16, h16⟩
  have a_16 := Lib.hid (KS.st _ _ _ _ _ a_15.out h16)
  have g_16 := Lib.hid ((KGI.ik _ _ _ _ _ _ _).st _ _ _ g_15.out h16)
  have i_16 := Lib.hid ((KSI.ik N xs).st _ _ _ i_15.out h16)
  have HB16 := Lib.hid (HB15.out.trans (h16.mono HB15.out.size))
  obtain ⟨_, _, rfl, ⟨QB, QBc, rfl, q16⟩, rfl⟩ := k16
  have b_16 := Lib.hid (show KS 0 [] (.slice QB 0 QBc) w16 from ⟨_, _, rfl, q16⟩)
  clear q16 h16
  obtain ⟨fbg_0, fbg_1, fbg_2, fbg_3, fbg_4, fbg_l, -⟩ := (bg_rw4.out.below HB16.out).o5
  go_wp2_with (go_at_call 17; refine name_calls ?_; intro w17 e17; refine Hid.out ?_)
  unfold Hid
  have h17 : Below w16.heap.size w16 w17 := by rw [e17]; exact bel
  have a_17 := Lib.hid (KS.st _ _ _ _ _ a_16.out h17)
  have b_17 := Lib.hid (KS.st _ _ _ _ _ b_16.out h17)
  have HB17 := Lib.hid (HB16.out.trans (h17.mono HB16.out.size))
  clear e17 h17
  refine (HGU.out _ (KG.st _ _ _ _ _ _ _ _ _ _ ug_rw4.out HB17.out)).mono ?_
  rintro r w18 ⟨v18, rfl, k18, h18⟩
  have a_18 := Lib.hid (KS.st _ _ _ _ _ a_17.out h18)
  have b_18 := Lib.hid (KS.st _ _ _ _ _ b_17.out h18)
  have HB18 := Lib.hid (HB17.out.trans (h18.mono HB17.out.size))
  have g_18 := Lib.hid k18
  clear k18 h18
  clear fbg_0 fbg_1 fbg_2 fbg_3 fbg_4 fbg_l
  go_wp2_with (go_at_call 41; refine name_calls ?_; intro w19 e19; refine Hid.out ?_)
  unfold Hid
  have h19 : Below w18.heap.size w18 w19 := by rw [e19]; exact bel
  have a_19 := Lib.hid (KS.st _ _ _ _ _ a_18.out h19)
  have b_19 := Lib.hid (KS.st _ _ _ _ _ b_18.out h19)
  have g_19 := Lib.hid ((KGI.ik _ _ _ _ _ _ _).st _ _ _ g_18.out h19)
  have HB19 := Lib.hid (HB18.out.trans (h19.mono HB18.out.size))
  clear e19 h19
  refine (HIN.out _ (KS.st _ _ _ _ _ ux_rw4.out HB19.out)).mono ?_
  rintro r w20 ⟨v20, rfl, k20, h20⟩
  have a_20 := Lib.hid (KS.st _ _ _ _ _ a_19.out h20)
  have b_20 := Lib.hid (KS.st _ _ _ _ _ b_19.out h20)
  have g_20 := Lib.hid ((KGI.ik _ _ _ _ _ _ _).st _ _ _ g_19.out h20)
  have HB20 := Lib.hid (HB19.out.trans (h20.mono HB19.out.size))
  have i_20 := Lib.hid k20
  clear k20 h20
  go_wp2_with (go_at_call 43; refine name_calls ?_; intro w21 e21; refine Hid.out ?_)
  unfold Hid
  have h21 : Below w20.heap.size w20 w21 := by rw [e21]; exact bel
  have a_21 := Lib.hid (KS.st _ _ _ _ _ a_20.out h21)
  have b_21 := Lib.hid (KS.st _ _ _ _ _ b_20.out h21)
  have g_21 := Lib.hid ((KGI.ik _ _ _ _ _ _ _).st _ _ _ g_20.out h21)
  have i_21 := Lib.hid ((KSI.ik N xs).st _ _ _ i_20.out h21)
  have HB21 := Lib.hid (HB20.out.trans (h21.mono HB20.out.size))
  clear e21 h21
  refine (HP1.out _ g_21.out.kg i_21.out.ks).mono ?_
  rintro r w22 ⟨v22, rfl, k22, h22⟩
  have a_22 := Lib.hid (KS.st _ _ _ _ _ a_21.out h22)
  have b_22 := Lib.hid (KS.st _ _ _ _ _ b_21.out h22)
  have g_22 := Lib.hid ((KGI.ik _ _ _ _ _ _ _).st _ _ _ g_21.out h22)
  have i_22 := Lib.hid ((KSI.ik N xs).st _ _ _ i_21.out h22)
  have HB22 := Lib.hid (HB21.out.trans (h22.mono HB21.out.size))
  obtain ⟨_, _, rfl, rfl, rfl⟩ := k22
  clear h22
  have ug_rw22 := Lib.hid (KG.st _ _ _ _ _ _ _ _ _ _ ug_rw4.out HB22.out)
  have ux_rw22 := Lib.hid (KS.st _ _ _ _ _ ux_rw4.out HB22.out)
  have bg_rw22 := Lib.hid (bg_rw4.out.below HB22.out)
  have HTabw22 := Lib.hid (HTabw4.out.below HB22.out)
  have HOw22 := Lib.hid (HOw4.out.trans (HB22.out.mono HOw4.out.size))
  have HZw22 := Lib.hid (Below.refl w22.heap.size w22)
  clear HB22 ug_rw4 ux_rw4 bg_rw4 HTabw4 HOw4
  obtain ⟨fbg_0, fbg_1, fbg_2, fbg_3, fbg_4, fbg_l, -⟩ := (bg_rw22.out.below HZw22.out).o5
  go_wp2_with (go_at_call 18; refine name_calls ?_; intro w23 e23; refine Hid.out ?_)
  unfold Hid
  have h23 : Below w22.heap.size w22 w23 := by rw [e23]; exact bel
  have HB23 := Lib.hid (HZw22.out.trans (h23.mono HZw22.out.size))
  have bp_23 := Lib.hid (show Blk w23 w22.heap.size #[(.int .i64 0), (.int .i64 0)] from by rw [e23]; exact Calm.Blk.new _ _ _)
  clear e23 h23
  refine (HCG.out _ (KG.st _ _ _ _ _ _ _ _ _ _ ug_rw22.out HB23.out)).mono ?_
  rintro r w24 ⟨v24, rfl, k24, h24⟩
  have bp_24 := Lib.hid (bp_23.out.below h24)
  have HB24 := Lib.hid (HB23.out.trans (h24.mono HB23.out.size))
  obtain rfl := k24
  clear h24
  clear fbg_0 fbg_1 fbg_2 fbg_3 fbg_4 fbg_l
  go_wp2_with (go_at_call 44; refine name_calls ?_; intro w25 e25; refine Hid.out ?_)
  unfold Hid
  have h25 : Below w24.heap.size w24 w25 := by rw [e25]; exact bel
  have bp_25 := Lib.hid (bp_24.out.below h25)
  have HB25 := Lib.hid (HB24.out.trans (h25.mono HB24.out.size))
  clear e25 h25
  refine (HCX.out _ (KS.st _ _ _ _ _ ux_rw22.out HB25.out)).mono ?_
  rintro r w26 ⟨v26, rfl, k26, h26⟩
  have bp_26 := Lib.hid (bp_25.out.below h26)
  have HB26 := Lib.hid (HB25.out.trans (h26.mono HB25.out.size))
  obtain rfl := k26
  clear h26
  go_wp2_with (go_at_call 31; refine name_calls ?_; intro w27 e27; refine Hid.out ?_)
  unfold Hid
  have h27 : Below w26.heap.size w26 w27 := by rw [e27]; exact bel
  have bp_27 := Lib.hid (bp_26.out.below h27)
  have HB27 := Lib.hid (HB26.out.trans (h27.mono HB26.out.size))
  have hcf : Hid (w27.heap[w26.heap.size]? = some (.cells #[(.int .i64 GE), (.int .i64 SE)] 3 (0, 0))) := Lib.hid (by rw [e27]; exact heap_new rfl)
  clear e27 h27
  refine (HFI.out _ _ hcf.out).mono ?_
  rintro r w28 ⟨v28, rfl, k28, h28⟩
  have bp_28 := Lib.hid (bp_27.out.below h28)
  have HB28 := Lib.hid (HB27.out.trans (h28.mono HB27.out.size))
  obtain rfl := k28
  clear h28
  clear hcf
  have ug_rw28 := Lib.hid (KG.st _ _ _ _ _ _ _ _ _ _ ug_rw22.out HB28.out)
  have ux_rw28 := Lib.hid (KS.st _ _ _ _ _ ux_rw22.out HB28.out)
  have a_rw28 := Lib.hid (KS.st _ _ _ _ _ a_22.out HB28.out)
  have b_rw28 := Lib.hid (KS.st _ _ _ _ _ b_22.out HB28.out)
  have bg_rw28 := Lib.hid (bg_rw22.out.below HB28.out)
  have HTabw28 := Lib.hid (HTabw22.out.below HB28.out)
  have HOw28 := Lib.hid (HOw22.out.trans (HB28.out.mono HOw22.out.size))
  have HZw28 := Lib.hid (Below.refl w28.heap.size w28)
  clear HB28 ug_rw22 ux_rw22 a_22 b_22 bg_rw22 HTabw22 HOw22
  go_wp2_with (go_at_call 38; refine name_calls ?_; intro w29 e29; refine Hid.out ?_)
  unfold Hid
  have h29 : Below w28.heap.size w28 w29 := by rw [e29]; exact bel
  have HB29 := Lib.hid (HZw28.out.trans (h29.mono HZw28.out.size))
  have bq_29 := Lib.hid (show Blk w29 w28.heap.size #[(.int .i64 0), (.int .i64 0)] from by rw [e29]; exact Calm.Blk.new _ _ _)
  clear e29 h29
  refine (HSI.out _ (KS.st _ _ _ _ _ a_rw28.out HB29.out) (KS.nil _)).mono ?_
  rintro r w30 ⟨v30, rfl, k30, h30⟩
  have bq_30 := Lib.hid (bq_29.out.below h30)
  have HB30 := Lib.hid (HB29.out.trans (h30.mono HB29.out.size))
  obtain rfl := k30
  clear h30
  go_wp2_with (go_at_call 38; refine name_calls ?_; intro w31 e31; refine Hid.out ?_)
  unfold Hid
  have h31 : Below w30.heap.size w30 w31 := by rw [e31]; exact bel
  have bq_31 := Lib.hid (bq_30.out.below h31)
  have HB31 := Lib.hid (HB30.out.trans (h31.mono HB30.out.size))
  clear e31 h31
  refine (HSI.out _ (KS.st _ _ _ _ _ b_rw28.out HB31.out) (KS.nil _)).mono ?_
  rintro r w32 ⟨v32, rfl, k32, h32⟩
  have bq_32 := Lib.hid (bq_31.out.below h32)
  have HB32 := Lib.hid (HB31.out.trans (h32.mono HB31.out.size))
  obtain rfl := k32
  clear h32
  obtain ⟨fbp_0, fbp_1, fbp_l, -⟩ := (bp_28.out.below HB32.out).o2
  obtain ⟨fbq_0, fbq_1, fbq_l, -⟩ := bq_32.out.o2
  go_wp2_with (go_at_call 15; refine name_calls ?_; intro w33 e33; refine Hid.out ?_)
  unfold Hid
  have h33 : Below w32.heap.size w32 w33 := by rw [e33]; exact bel
  have bq_33 := Lib.hid (bq_32.out.below h33)
  have HB33 := Lib.hid (HB32.out.trans (h33.mono HB32.out.size))
  clear e33 h33
  refine (awake_any _ (HTabw28.out.below HB33.out)).mono ?_
  rintro r w34 ⟨rfl, h34⟩
  have HB34 := Lib.hid (HB33.out.trans (h34.mono HB33.out.size))
  clear h34
  go_wp2
  go_ret
  exact ⟨by first | rfl | (simp; done), HOw28.out.trans (HB34.out.mono HOw28.out.size)⟩
end Go.Proofs.YtdeapbihbhoefaaDoor
