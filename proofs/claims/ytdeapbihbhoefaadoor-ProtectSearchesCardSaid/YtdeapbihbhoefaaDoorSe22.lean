/- Part 22 of the texts of the claim: N15, LStP, N16, RunC, LOpP. -/
import Derived.Test.YtdeapbihbhoefaaDoorSe21
import Derived.Test.YtdeapbihbhoefaaDoorSe20
import Derived.Test.YtdeapbihbhoefaaDoorSe7
import Derived.Test.YtdeapbihbhoefaaDoorSe19

/- The reference's search for the loudest signal. -/
namespace Go.Proofs.YtdeapbihbhoefaaDoor
open Go.RowKit
open Calm (bcell Blk)
theorem updO_some {b o : Option (List Int)} {r : List Int} (h : updO b o = some r) : b = some r ∨ o = some r := by
  cases o with
  | none => exact .inl h
  | some x =>
    cases b with
    | none => exact .inr h
    | some z =>
      have h' : (if enF z < enF x then some x else some z) = some r := h
      split at h'
      · exact .inr h'
      · exact .inl h'
theorem refK_in {lk ht rc : Int} {ts ls : List Int} (hls : inB 2048 ls) {n : Nat} {rec : Int → List Int → Option (List Int)} (hr : ∀ h ps r, rec h ps = some r → inB 2048 r ∧ r.length = n) (h : Int) (ps : List Int) : ∀ k r, refK lk ht rc ts ls rec h ps k = some r → inB 2048 r ∧ r.length = n + 1
  | 0, r, e => by cases e
  | k + 1, r, e => by
    unfold refK at e
    split at e
    · rcases updO_some e with e | e
      · exact refK_in hls hr h ps k r e
      · obtain ⟨r', h1, h2⟩ := Option.map_eq_some_iff.1 e
        obtain ⟨h3, h4⟩ := hr _ _ _ h1
        subst h2
        exact ⟨fun x hx => (List.mem_cons.1 hx).elim (fun e => e ▸ inB_get hls (by omega) k) (h3 x), by simp [h4]⟩
    · exact refK_in hls hr h ps k r e
theorem refL_in {lk ht rc : Int} {ts ls : List Int} (hls : inB 2048 ls) : ∀ n h ps r, refL lk ht rc ts ls n h ps = some r → inB 2048 r ∧ r.length = n
  | 0, h, ps, r, e => by cases e; exact ⟨(fun x hx => by cases hx), rfl⟩
  | n + 1, h, ps, r, e => refK_in hls (refL_in hls n) h ps _ r e
theorem getD_in {o : Option (List Int)} {n : Nat} (h : ∀ r, o = some r → inB 2048 r ∧ r.length = n) : inB 2048 (o.getD []) ∧ (o.getD []).length ≤ n := by
  cases o with
  | none => exact ⟨(fun x hx => by cases hx), Nat.zero_le _⟩
  | some r => exact ⟨(h r rfl).1, Nat.le_of_eq (h r rfl).2⟩
theorem fine_safe {ht rc h x : Int} {ts ps : List Int} : fineF ht rc h x ts ps = (!decide (rc < absI x) && safeB ht rc h ts ps) := by
  unfold fineF safeB
  cases decide (h ≤ ht) <;> cases decide (rc < absI x) <;> simp
/-- what the search hands back. -/
def LoR (o : Option (List Int)) : Rel.Know := K2 (KS (o.getD []).length (o.getD [])) (KV (.bool o.isSome))
/-- the contract of the search, at n further outputs. -/
def LoC (lk ht rc : Int) (ts gs ls : List Int) (M L Q K n : Nat) : Prop :=
  ∀ (u v x : Value) (h lv : Int) (ps : List Int) (W : World), 0 ≤ h ∧ h ≤ 549755813888 → Q = ps.length → inB 2048 ps → KG lk ht rc M ts L gs u W → KT h lv Q ps v W → KS K ls x W →
    Calls Tryd.prog 97 #[u, v, x, (.int .i64 ((n : Int)))] W (KP (LoR (refL lk ht rc ts ls n h ps)) W)
set_option maxHeartbeats 1000000 in
theorem loC_zero (lk ht rc : Int) (ts gs ls : List Int) (M L Q K : Nat) : LoC lk ht rc ts gs ls M L Q K 0 := by
  intro u v x h lv ps w _ _ _ hu hv hx
  obtain ⟨A1, c1, A2, c2, rfl, -, -⟩ := hu
  obtain ⟨A3, c3, rfl, -⟩ := hv
  obtain ⟨A5, c5, rfl, -⟩ := hx
  go_enter Tryd.func97, Tryd.ntmps97
  go_wp2
  exact bodyPost_ret (v := .tuple #[.slice none 0 0, .bool true]) (by simp [results, Tryd.results97, go_sem]) rfl ⟨_, rfl, ⟨_, _, rfl, KS.nil _, rfl⟩, bel⟩
set_option maxRecDepth 100000 in
set_option maxHeartbeats 8000000 in
theorem loC_succ {lk ht rc : Int} {ts gs ls : List Int} {M L Q K n : Nat} (hV : Valid lk ht rc ts gs) (hM : M = ts.length) (hQ : M = Q + 1) (hK : K = ls.length) (hK5 : K ≤ 1000) (hn : n ≤ 100) (hls : inB 2048 ls) (IH : LoC lk ht rc ts gs ls M L Q K n) : LoC lk ht rc ts gs ls M L Q K (n + 1) := by
  intro u v x h lv ps w hh hps hpb hu hv hx
  obtain ⟨A1, c1, A2, c2, rfl, hT, hG⟩ := hu
  obtain ⟨A3, c3, rfl, hP⟩ := hv
  obtain ⟨A5, c5, rfl, hX⟩ := hx
  have HU := Lib.hid (show KG lk ht rc M ts L gs (.agg #[(.int .i64 lk), (.int .i64 ht), .slice A1 M c1, (.int .i64 rc), .slice A2 L c2]) w from ⟨_, _, _, _, rfl, hT, hG⟩)
  have HVV := Lib.hid (show KT h lv Q ps (.agg #[(.int .i64 h), (.int .i64 lv), .slice A3 Q c3]) w from ⟨_, _, rfl, hP⟩)
  have HX := Lib.hid (show KS K ls (.slice A5 K c5) w from ⟨_, _, rfl, hX⟩)
  have hM8 : M ≤ 8 := by rw [hM]; exact hV.tl.2
  obtain ⟨RF, hRF⟩ : ∃ RF : Nat → Option (List Int), RF = refK lk ht rc ts ls (refL lk ht rc ts ls n) h ps := ⟨_, rfl⟩
  have HRK : Hid (refL lk ht rc ts ls (n + 1) h ps = RF K) := Lib.hid (by rw [hRF, hK]; rfl)
  have HR0 : Hid (RF 0 = none) := Lib.hid (by rw [hRF]; rfl)
  have HRS : Hid (∀ k, RF (k + 1) = if (!decide (rc < absI (exF ts ps (ls.getD k 0))) && safeB ht rc (coolF lk h + ls.getD k 0 * ls.getD k 0) ts (pushL ps (ls.getD k 0))) = true then updO (RF k) ((refL lk ht rc ts ls n (coolF lk h + ls.getD k 0 * ls.getD k 0) (pushL ps (ls.getD k 0))).map (ls.getD k 0 :: ·)) else RF k) := Lib.hid (fun k => by rw [hRF, ← fine_safe]; rfl)
  have HRI : Hid (∀ k, inB 2048 ((RF k).getD []) ∧ ((RF k).getD []).length ≤ n + 1) := Lib.hid (fun k => by rw [hRF]; exact getD_in (fun r e => refK_in hls (refL_in hls n) h ps k r e))
  have HLI : Hid (∀ h' ps', inB 2048 ((refL lk ht rc ts ls n h' ps').getD []) ∧ ((refL lk ht rc ts ls n h' ps').getD []).length ≤ n) := Lib.hid (fun h' ps' => getD_in (fun r e => refL_in hls n h' ps' r e))
  have HYB : Hid (∀ k : Nat, -2048 ≤ ls.getD k 0 ∧ ls.getD k 0 ≤ 2048) := Lib.hid (fun k => inB_get hls (by omega) k)
  have hcl := coolF_bd lk hh.1
  have HBHk : Hid (∀ {u v : Value} (y : Int) (W : World), -2048 ≤ y ∧ y ≤ 2048 → KG lk ht rc M ts L gs u W → KT h lv Q ps v W → Calls Tryd.prog 36 #[u, v, (.int .i64 y)] W (KP (K2 (KTI (coolF lk h + y * y) lv Q (pushL ps y)) (KV (.int .i64 (exF ts ps y)))) W)) := Lib.hid (fun y W hy q1 q2 => rBehind_K hV.lk ⟨hh.1, by omega⟩ hM hps hQ (by omega) hV.tb hpb hy q1 q2)
  have HSFk : Hid (∀ {u v : Value} (y : Int) (W : World), -2048 ≤ y ∧ y ≤ 2048 → KG lk ht rc M ts L gs u W → KT (coolF lk h + y * y) lv Q (pushL ps y) v W → Calls Tryd.prog 34 #[u, v] W fun r w' => r = .returned (.bool (safeB ht rc (coolF lk h + y * y) ts (pushL ps y))) ∧ Below W.heap.size W w') := Lib.hid (fun y W hy q1 q2 => by
    have hsq := sq_bd hy
    exact (rSafe_K hV.lk (by omega) hM (by rw [pushL_len]; exact hps) hQ hM8 hV.tb (inB_push hpb hy) q1 q2).mono fun e W' ⟨v, k1, k2, k3⟩ => ⟨by rw [k1, show v = _ from k2], k3⟩)
  have HAXk : Hid (∀ (y : Int) (W : World), -2048 ≤ y ∧ y ≤ 2048 → Calls Tryd.prog 82 #[(.int .i64 (exF ts ps y))] W fun r w' => r = .returned (.int .i64 (absI (exF ts ps y))) ∧ W = w') := Lib.hid (fun y W hy => by
    have hXb := exF_bd (ts := ts) (ps := ps) (y := y) hV.tb hpb hy (by omega)
    exact rAbs_any _ W ⟨by omega, by omega⟩)
  have HRCk : Hid (∀ {u v x : Value} (y : Int) (W : World), -2048 ≤ y ∧ y ≤ 2048 → safeB ht rc (coolF lk h + y * y) ts (pushL ps y) = true → KG lk ht rc M ts L gs u W → KT (coolF lk h + y * y) lv Q (pushL ps y) v W → KS K ls x W → Calls Tryd.prog 97 #[u, v, x, (.int .i64 ((n : Int)))] W (KP (LoR (refL lk ht rc ts ls n (coolF lk h + y * y) (pushL ps y))) W)) := Lib.hid (fun y W hy hs q1 q2 q3 => by
    have hsq := sq_bd hy
    have h3 : coolF lk h + y * y ≤ ht := by
      unfold safeB at hs
      simp only [Bool.and_eq_true, decide_eq_true_eq] at hs
      exact hs.1
    have h4 := hV.ht
    exact IH _ _ _ _ _ _ W ⟨by omega, by omega⟩ (by rw [pushL_len]; exact hps) (inB_push hpb hy) q1 q2 q3)
  have HENk : Hid (∀ {u : Value} (m : Nat) (l : List Int) (W : World), m = l.length → m ≤ 5000 → inB 2048 l → KS m l u W → Calls Tryd.prog 60 #[u] W (KP (KV (.int .i64 (enF l))) W)) := Lib.hid (fun m l W q1 q2 q3 q4 => rEnergy_K q1 q2 q3 q4)
  have HK := Lib.hid hK
  have hn0 : ((n : Int) + 1 == 0) = false := beq_eq_false_iff_ne.2 (by omega)
  clear hV hM hQ hK hls IH hh hps hpb hT hG hP hX hM8 hRF hcl
  rw [show (((n + 1 : Nat) : Int)) = (n : Int) + 1 by omega]
  go_enter Tryd.func97, Tryd.ntmps97
  go_wp2
  clear hn0
  refine name_world ?_
  intro w1 e1
  have hb1 : Below w.heap.size w w1 := by rw [e1]; exact bel
  have bg := Lib.hid (show Blk w1 w.heap.size #[(.int .i64 lk), (.int .i64 ht), .slice A1 M c1, (.int .i64 rc), .slice A2 L c2] by rw [e1]; (repeat (first | ((with_reducible refine Blk.at_ ?_); focus (first | rfl | (simp; done) | (simp; omega))) | (with_reducible refine Blk.alloc ?_ _) | (with_reducible refine Blk.below ?_ (by with_reducible assumption)) | (with_reducible refine Blk.drew ?_))))
  have bs := Lib.hid (show Blk w1 (w.heap.size + 1) #[(.int .i64 h), (.int .i64 lv), .slice A3 Q c3] by rw [e1]; (repeat (first | ((with_reducible refine Blk.at_ ?_); focus (first | rfl | (simp; done) | (simp; omega))) | (with_reducible refine Blk.alloc ?_ _) | (with_reducible refine Blk.below ?_ (by with_reducible assumption)) | (with_reducible refine Blk.drew ?_))))
  have HB1 := Lib.hid hb1
  have HU1w := Lib.hid (KG.st _ _ _ _ _ _ _ _ _ _ HU.out hb1)
  have HV1w := Lib.hid (KT.st _ _ _ _ _ _ _ HVV.out hb1)
  have HX1w := Lib.hid (KS.st _ _ _ _ _ HX.out hb1)
  clear e1 hb1 HU HVV HX
  go_loopw [10, 11, 12] (fun b f i wr => ∃ (k : Nat) (B : Option Addr) (c : Nat), k ≤ K ∧ i = (.int .i64 ((k : Int))) ∧ b = .slice B ((RF k).getD []).length c ∧ f = .bool (RF k).isSome ∧ Cells wr B ((RF k).getD []) ∧ Below w1.heap.size w1 wr) (fun _ _ i _ => K - (intOf i).toNat)
  case atStart => exact ⟨0, none, 0, Nat.zero_le _, rfl, by rw [HR0.out]; rfl, by rw [HR0.out]; rfl, (fun h => by rw [HR0.out] at h; cases h), Below.refl _ _⟩
  case round =>
    obtain ⟨k, B, c, hk, rfl, rfl, rfl, kc, kb⟩ := hrel
    have KC := Lib.hid kc
    have KB := Lib.hid kb
    have bg_r := Lib.hid (bg.out.below kb)
    have bs_r := Lib.hid (bs.out.below kb)
    have HUr := Lib.hid (KG.st _ _ _ _ _ _ _ _ _ _ HU1w.out kb)
    have HVr := Lib.hid (KT.st _ _ _ _ _ _ _ HV1w.out kb)
    have HXr := Lib.hid (KS.st _ _ _ _ _ HX1w.out kb)
    clear kc kb
    by_cases hlt : k < K
    · obtain ⟨_, _, ee, hxc⟩ := HXr.out
      cases ee
      obtain ⟨bx, ox, hAx, hxl, hxcell⟩ := hxc (by rw [← HK.out]; omega)
      subst hAx
      have hck := hxcell k (by rw [← HK.out]; exact hlt)
      obtain ⟨y1, y2⟩ := HYB.out k
      have hs := HRS.out k
      obtain ⟨y, hy⟩ : ∃ y, y = ls.getD k 0 := ⟨_, rfl⟩
      have HY := Lib.hid hy
      rw [← hy] at hck y1 y2 hs
      have HBH : Hid (∀ {u v : Value} (W : World), KG lk ht rc M ts L gs u W → KT h lv Q ps v W → Calls Tryd.prog 36 #[u, v, (.int .i64 y)] W (KP (K2 (KTI (coolF lk h + y * y) lv Q (pushL ps y)) (KV (.int .i64 (exF ts ps y)))) W)) := Lib.hid (fun W q1 q2 => HBHk.out y W ⟨y1, y2⟩ q1 q2)
      have HSS : Hid (∀ {u v : Value} (W : World), KG lk ht rc M ts L gs u W → KT (coolF lk h + y * y) lv Q (pushL ps y) v W → Calls Tryd.prog 34 #[u, v] W fun r w' => r = .returned (.bool (safeB ht rc (coolF lk h + y * y) ts (pushL ps y))) ∧ Below W.heap.size W w') := Lib.hid (fun W q1 q2 => HSFk.out y W ⟨y1, y2⟩ q1 q2)
      have HAX : Hid (∀ W, Calls Tryd.prog 82 #[(.int .i64 (exF ts ps y))] W fun r w' => r = .returned (.int .i64 (absI (exF ts ps y))) ∧ W = w') := Lib.hid (fun W => HAXk.out y W ⟨y1, y2⟩)
      have HRC : Hid (safeB ht rc (coolF lk h + y * y) ts (pushL ps y) = true → ∀ {u v x : Value} (W : World), KG lk ht rc M ts L gs u W → KT (coolF lk h + y * y) lv Q (pushL ps y) v W → KS K ls x W → Calls Tryd.prog 97 #[u, v, x, (.int .i64 ((n : Int)))] W (KP (LoR (refL lk ht rc ts ls n (coolF lk h + y * y) (pushL ps y))) W)) := Lib.hid (fun q0 _ _ _ W q1 q2 q3 => HRCk.out y W ⟨y1, y2⟩ q0 q1 q2 q3)
      obtain ⟨hi1, hi2⟩ := HLI.out (coolF lk h + y * y) (pushL ps y)
      obtain ⟨hj1, hj2⟩ := HRI.out k
      obtain ⟨OR, hOR⟩ : ∃ OR, OR = refL lk ht rc ts ls n (coolF lk h + y * y) (pushL ps y) := ⟨_, rfl⟩
      obtain ⟨H1, hH1⟩ : ∃ H1, H1 = coolF lk h + y * y := ⟨_, rfl⟩
      obtain ⟨P1, hP1⟩ : ∃ P1, P1 = pushL ps y := ⟨_, rfl⟩
      obtain ⟨X, hX⟩ : ∃ X, X = exF ts ps y := ⟨_, rfl⟩
      obtain ⟨AX, hAX⟩ : ∃ AX, AX = absI (exF ts ps y) := ⟨_, rfl⟩
      obtain ⟨SF, hSF⟩ : ∃ SF, SF = safeB ht rc (coolF lk h + y * y) ts (pushL ps y) := ⟨_, rfl⟩
      rw [← hOR, ← hSF] at HRC
      rw [← hAX, ← hX] at HAX
      rw [← hSF] at HSS
      rw [← hX] at HBH
      rw [← hOR] at hi1 hi2
      rw [← hAX, ← hSF, ← hOR] at hs
      rw [← hH1, ← hP1] at HBH HSS HRC
      obtain ⟨LR, hLR⟩ : ∃ LR, OR.getD [] = LR := ⟨_, rfl⟩
      obtain ⟨NR, hNR⟩ : ∃ NR, NR = LR.length := ⟨_, rfl⟩
      obtain ⟨IR, hIR⟩ : ∃ IR, OR.isSome = IR := ⟨_, rfl⟩
      obtain ⟨LB, hLB⟩ : ∃ LB, (RF k).getD [] = LB := ⟨_, rfl⟩
      obtain ⟨NB, hNB⟩ : ∃ NB, NB = LB.length := ⟨_, rfl⟩
      obtain ⟨FB, hFB⟩ : ∃ FB, (RF k).isSome = FB := ⟨_, rfl⟩
      obtain ⟨E1, hE1⟩ : ∃ E1, E1 = enF (y :: LR) := ⟨_, rfl⟩
      obtain ⟨E2, hE2⟩ : ∃ E2, E2 = enF LB := ⟨_, rfl⟩
      have HU0 : Hid (rc < AX → RF (k + 1) = RF k) := Lib.hid (fun q => by rw [hs, decide_eq_true q]; rfl)
      have HU1 : Hid (SF = false → RF (k + 1) = RF k) := Lib.hid (fun q => by rw [hs, q, Bool.and_false]; rfl)
      have HU2s : Hid (¬ rc < AX → SF = true → (IR = false → RF (k + 1) = RF k) ∧ (IR = true → FB = false → RF (k + 1) = some (y :: LR)) ∧ (IR = true → FB = true → E2 < E1 → RF (k + 1) = some (y :: LR)) ∧ (IR = true → FB = true → ¬ E2 < E1 → RF (k + 1) = RF k)) := Lib.hid (fun q q2 => by
        rw [decide_eq_false q, q2] at hs
        rw [hs]
        clear hs
        rw [← hIR, ← hFB, ← hLR, hE1, hE2, ← hLB, ← hLR]
        cases OR with
        | none => exact ⟨fun _ => rfl, (fun h => by cases h), (fun h => by cases h), (fun h => by cases h)⟩
        | some r =>
          cases RF k with
          | none => exact ⟨(fun h => by cases h), fun _ _ => rfl, (fun _ h => by cases h), (fun _ h => by cases h)⟩
          | some b => exact ⟨(fun h => by cases h), (fun _ h => by cases h), fun _ _ h => if_pos h, fun _ _ h => if_neg h⟩)
      have HLR := Lib.hid hLR
      have HNR := Lib.hid hNR
      have HIR := Lib.hid hIR
      have HLB := Lib.hid hLB
      have HNB := Lib.hid hNB
      have HFB := Lib.hid hFB
      rw [hLR] at hi1 hi2
      rw [hLB] at hj1 hj2 KC
      rw [hLB, hFB, ← hNB]
      have hnr : NR ≤ 1000 := by omega
      have HEN : Hid ((∀ (u : Value) (W : World), KS (NR + 1) (y :: LR) u W → Calls Tryd.prog 60 #[u] W (KP (KV (.int .i64 E1)) W)) ∧ (∀ (u : Value) (W : World), KS NB LB u W → Calls Tryd.prog 60 #[u] W (KP (KV (.int .i64 E2)) W))) := Lib.hid ⟨fun u W q => by rw [hE1]; exact HENk.out (NR + 1) _ W (by rw [List.length_cons, ← hNR]) (by omega) (fun z hz => (List.mem_cons.1 hz).elim (fun e => e ▸ ⟨y1, y2⟩) (hi1 z)) q, fun u W q => by rw [hE2]; exact HENk.out NB _ W hNB (by omega) hj1 q⟩
      clear hxcell hxc hy hs hOR hH1 hP1 hX hAX hSF hLR hNR hIR hLB hNB hFB hE1 hE2 hi1 hi2 hj1 hj2 HBHk HSFk HAXk HRCk HENk
      have hkK : (k : Int) < (K : Int) := by omega
      obtain ⟨g0, g1, g2, g3, g4, gl, -⟩ := bg_r.out.o5
      obtain ⟨s0, s1, s2, sl, -⟩ := bs_r.out.o3
      go_wp2
      refine RelH.region3 (S := Sty 26 (KTI H1 lv Q P1) wr.heap.size) (Sty.trans (KTI.ik _ _ _ _)) (Sty.drawn (by decide)) 12 (by kernel_rfl) (by kernel_rfl) (by kernel_rfl) ?_
      simp only [List.take_succ_cons, List.take_zero, List.drop_succ_cons, List.drop_zero, List.filterMap_cons, List.filterMap_nil]
      iterate 6 (refine RelH.opz (Sty.refl (by decide)) (hn := ?_); (try simp only [List.nil_append, List.cons_append]))
      refine RelH.callH (fun _ _ h => h.keep) (fun _ _ h => Sty.of (by decide) h) 36 (K2 (KTI H1 lv Q P1) (KV (.int .i64 X))) ((K2.ik (KTI.ik _ _ _ _) (KV.ik _))) (RelH.gno rfl) ?_ ?_
      · intro a W x hS hd hbase
        have hb := hS.below (Nat.le_refl _)
        have q1 : a.eval (.tmp 27) = _ := (RelH.dep_k hd 0 rfl rfl)
        have q2 : a.eval (.tmp 28) = _ := (RelH.dep_k hd 1 rfl rfl)
        have q3 : a.eval (.tmp 32) = _ := (RelH.dep_k hd 5 rfl rfl)
        refine ⟨#[a.eval (.tmp 27), a.eval (.tmp 28), a.eval (.tmp 32)], ?_, by rw [q1, q2, q3]; exact HBH.out _ (KG.st _ _ _ _ _ _ _ _ _ _ HUr.out hb) (KT.st _ _ _ _ _ _ _ HVr.out hb)⟩
        clear hd hbase hb hS
        go_simp
        (first | done | rfl | (refine ⟨?_, ?_⟩ <;> rfl))
      (try simp only [List.nil_append, List.cons_append])
      refine RelH.mvH (Sty.refl (by decide)) (fun _ _ h => h.keep) 33 6 rfl rfl rfl ((K2.ik (KTI.ik _ _ _ _) (KV.ik _))) (RelH.gno rfl) ?_
      (try simp only [List.nil_append, List.cons_append])
      refine RelH.ext20H (Sty.refl (by decide)) (fun _ _ h => h.keep) 26 7 rfl rfl rfl ((KTI.ik _ _ _ _)) (RelH.gno rfl) ?_
      (try simp only [List.nil_append, List.cons_append])
      refine RelH.ext21H (Sty.refl (by decide)) (fun _ _ h => h.keep) 26 7 rfl rfl rfl ((KV.ik _)) (RelH.gno rfl) ?_
      (try simp only [List.nil_append, List.cons_append])
      (refine RelH.allocH (by decide) (n := 3) (fun cs W h => by obtain ⟨_, _, e, _⟩ := h; cases e; rfl) #[(.int .i64 0), (.int .i64 0), .slice none 0 0] rfl (RelH.gno rfl) (by intro a W; go_simp) ?_; (try simp only [List.nil_append, List.cons_append]))
      refine RelH.storeHR 13 34 10 8 rfl rfl rfl rfl rfl (RelH.gno rfl) ?_
      (try simp only [List.nil_append, List.cons_append])
      refine RelH.done3 ?_
      intro x w21 hS21 hx
      have h21 := hS21.below (Nat.le_refl _)
      clear hS21
      simp only [RelH.facts, Nat.zero_add, Nat.reduceAdd] at hx
      obtain ⟨e0, e1, e2, e3, e4, e5, _, _, _, e9, _, ⟨gb21, e10, hg21, cs21, hG21, B21, c21, ec21, hc21, hi21⟩, _⟩ := hx
      have e9 : x 9 = _ := e9
      cases ec21
      simp only [RelH.fill, Nat.zero_add, Nat.reduceAdd, e0, e1, e2, e3, e4, e5, e9, e10]
      simp only [Act.put, List.setIfInBounds_toArray, List.set_cons_zero, List.set_cons_succ]
      clear e0 e1 e2 e3 e4 e5 e9 e10
      have bg_21 := Lib.hid (bg_r.out.below h21)
      have bs_21 := Lib.hid (bs_r.out.below h21)
      have HB21 := Lib.hid (KB.out.trans (h21.mono KB.out.size))
      have bn_21 := Lib.hid (show Blk w21 gb21 #[(.int .i64 H1), (.int .i64 lv), .slice B21 Q c21] from Calm.Blk.row hG21)
      have HC2 := Lib.hid hc21
      have HU2 := Lib.hid (KG.st _ _ _ _ _ _ _ _ _ _ HUr.out h21)
      have HX2 := Lib.hid (KS.st _ _ _ _ _ HXr.out h21)
      have KC2 := Lib.hid (KC.out.below h21)
      clear hc21 hi21 hG21 h21 HBH HVr HUr HXr KC g0 g1 g2 g3 g4 gl s0 s1 s2 sl hck
      have HT2 := Lib.hid (show KT H1 lv Q P1 (.agg #[(.int .i64 H1), (.int .i64 lv), .slice B21 Q c21]) w21 from ⟨_, _, rfl, HC2.out⟩)
      clear HC2
      obtain ⟨g0, g1, g2, g3, g4, gl, -⟩ := bg_21.out.o5
      obtain ⟨n0, n1, n2, nl, -⟩ := bn_21.out.o3
      by_cases hfar : rc < AX
      · have hbx : decide (rc < AX) = true := decide_eq_true hfar
        have HS := Lib.hid (HU0.out (by omega))
        go_wp2
        refine Calm.all_below (by kernel_rfl) (by kernel_rfl) ?_
        (first | (apply Calm.op_move; (focus rfl); (focus (first | exact .inl rfl | exact .inr rfl)); (focus ((try simp only [Act.eval, Array.getD_eq_getD_getElem?, List.getElem?_toArray, List.getElem?_cons_succ, List.getElem?_cons_zero, Option.getD_some]); rfl)); (try simp only [Act.put, List.setIfInBounds_toArray, List.set_cons_zero, List.set_cons_succ])) | (apply Calm.op_not; (focus rfl); (try simp only [Act.put, List.setIfInBounds_toArray, List.set_cons_zero, List.set_cons_succ])) | (apply Calm.op; (focus rfl); (focus (intro W hb; obtain ⟨hc, hf⟩ := bcell hb; clear hb hf; go_simp; (try go_bits); (try rfl); done)); (try simp only [Act.put, List.setIfInBounds_toArray, List.set_cons_zero, List.set_cons_succ])))
        apply Calm.op_call
        focus rfl
        focus (intro W hb; obtain ⟨hc, hf⟩ := bcell hb; clear hb hf; go_simp; refine ⟨?_, ?_⟩; rfl; rfl)
        focus (intro W hb; exact Calm.call_same hb (HAX.out _))
        (try simp only [Act.put, List.setIfInBounds_toArray, List.set_cons_zero, List.set_cons_succ])
        (first | (apply Calm.op_move; (focus rfl); (focus (first | exact .inl rfl | exact .inr rfl)); (focus ((try simp only [Act.eval, Array.getD_eq_getD_getElem?, List.getElem?_toArray, List.getElem?_cons_succ, List.getElem?_cons_zero, Option.getD_some]); rfl)); (try simp only [Act.put, List.setIfInBounds_toArray, List.set_cons_zero, List.set_cons_succ])) | (apply Calm.op_not; (focus rfl); (try simp only [Act.put, List.setIfInBounds_toArray, List.set_cons_zero, List.set_cons_succ])) | (apply Calm.op; (focus rfl); (focus (intro W hb; obtain ⟨hc, hf⟩ := bcell hb; clear hb hf; go_simp; (try go_bits); (try rfl); done)); (try simp only [Act.put, List.setIfInBounds_toArray, List.set_cons_zero, List.set_cons_succ])))
        (first | (apply Calm.op_move; (focus rfl); (focus (first | exact .inl rfl | exact .inr rfl)); (focus ((try simp only [Act.eval, Array.getD_eq_getD_getElem?, List.getElem?_toArray, List.getElem?_cons_succ, List.getElem?_cons_zero, Option.getD_some]); rfl)); (try simp only [Act.put, List.setIfInBounds_toArray, List.set_cons_zero, List.set_cons_succ])) | (apply Calm.op_not; (focus rfl); (try simp only [Act.put, List.setIfInBounds_toArray, List.set_cons_zero, List.set_cons_succ])) | (apply Calm.op; (focus rfl); (focus (intro W hb; obtain ⟨hc, hf⟩ := bcell hb; clear hb hf; go_simp; (try go_bits); (try rfl); done)); (try simp only [Act.put, List.setIfInBounds_toArray, List.set_cons_zero, List.set_cons_succ])))
        (first | (apply Calm.op_move; (focus rfl); (focus (first | exact .inl rfl | exact .inr rfl)); (focus ((try simp only [Act.eval, Array.getD_eq_getD_getElem?, List.getElem?_toArray, List.getElem?_cons_succ, List.getElem?_cons_zero, Option.getD_some]); rfl)); (try simp only [Act.put, List.setIfInBounds_toArray, List.set_cons_zero, List.set_cons_succ])) | (apply Calm.op_not; (focus rfl); (try simp only [Act.put, List.setIfInBounds_toArray, List.set_cons_zero, List.set_cons_succ])) | (apply Calm.op; (focus rfl); (focus (intro W hb; obtain ⟨hc, hf⟩ := bcell hb; clear hb hf; go_simp; (try go_bits); (try rfl); done)); (try simp only [Act.put, List.setIfInBounds_toArray, List.set_cons_zero, List.set_cons_succ])))
        (try simp only [hbx])
        (first | (apply Calm.op_move; (focus rfl); (focus (first | exact .inl rfl | exact .inr rfl)); (focus ((try simp only [Act.eval, Array.getD_eq_getD_getElem?, List.getElem?_toArray, List.getElem?_cons_succ, List.getElem?_cons_zero, Option.getD_some]); rfl)); (try simp only [Act.put, List.setIfInBounds_toArray, List.set_cons_zero, List.set_cons_succ])) | (apply Calm.op_not; (focus rfl); (try simp only [Act.put, List.setIfInBounds_toArray, List.set_cons_zero, List.set_cons_succ])) | (apply Calm.op; (focus rfl); (focus (intro W hb; obtain ⟨hc, hf⟩ := bcell hb; clear hb hf; go_simp; (try go_bits); (try rfl); done)); (try simp only [Act.put, List.setIfInBounds_toArray, List.set_cons_zero, List.set_cons_succ])))
        (try simp only [hbx])
        iterate 4 ((with_reducible refine Calm.op_not ?_ ?_); (focus rfl); (try simp only [Act.put, List.setIfInBounds_toArray, List.set_cons_zero, List.set_cons_succ]))
        (first | (apply Calm.op_move; (focus rfl); (focus (first | exact .inl rfl | exact .inr rfl)); (focus ((try simp only [Act.eval, Array.getD_eq_getD_getElem?, List.getElem?_toArray, List.getElem?_cons_succ, List.getElem?_cons_zero, Option.getD_some]); rfl)); (try simp only [Act.put, List.setIfInBounds_toArray, List.set_cons_zero, List.set_cons_succ])) | (apply Calm.op_not; (focus rfl); (try simp only [Act.put, List.setIfInBounds_toArray, List.set_cons_zero, List.set_cons_succ])) | (apply Calm.op; (focus rfl); (focus (intro W hb; obtain ⟨hc, hf⟩ := bcell hb; clear hb hf; go_simp; (try go_bits); (try rfl); done)); (try simp only [Act.put, List.setIfInBounds_toArray, List.set_cons_zero, List.set_cons_succ])))
        refine wpQuiet_nil ?_
        intro w9 hb9
        obtain ⟨hb9c, hb9f⟩ := bcell hb9
        have hb9z := hb9.size
        (try simp at hb9z)
        (try have hb9z0 : w.heap.size < w9.heap.size := by omega)
        (try have hb9z1 : w.heap.size + 1 < w9.heap.size := by omega)
        (try have hb9z2 : w.heap.size + 1 + 1 < w9.heap.size := by omega)
        (try have hb9z3 : w.heap.size + 1 + 1 + 1 < w9.heap.size := by omega)
        (try have hb9z4 : w.heap.size + 1 + 1 + 1 + 1 < w9.heap.size := by omega)
        (try have hb9z5 : w.heap.size + 1 + 1 + 1 + 1 + 1 < w9.heap.size := by omega)
        have HB9 := Lib.hid (HB21.out.trans (hb9.mono HB21.out.size))
        have KC9 := Lib.hid (KC2.out.below hb9)
        go_wp2
        go_roundw
        case rel => exact ⟨k + 1, B, c, by omega, by go_num, by rw [HS.out, HLB.out, ← HNB.out], by rw [HS.out, HFB.out], by rw [HS.out, HLB.out]; exact KC9.out, HB9.out⟩
        case measure => simp [intOf]; omega
      · have hbx : decide (rc < AX) = false := decide_eq_false hfar
        cases SF
        · have HS := Lib.hid (HU1.out rfl)
          go_wp2
          refine Calm.all_below (by kernel_rfl) (by kernel_rfl) ?_
          (first | (apply Calm.op_move; (focus rfl); (focus (first | exact .inl rfl | exact .inr rfl)); (focus ((try simp only [Act.eval, Array.getD_eq_getD_getElem?, List.getElem?_toArray, List.getElem?_cons_succ, List.getElem?_cons_zero, Option.getD_some]); rfl)); (try simp only [Act.put, List.setIfInBounds_toArray, List.set_cons_zero, List.set_cons_succ])) | (apply Calm.op_not; (focus rfl); (try simp only [Act.put, List.setIfInBounds_toArray, List.set_cons_zero, List.set_cons_succ])) | (apply Calm.op; (focus rfl); (focus (intro W hb; obtain ⟨hc, hf⟩ := bcell hb; clear hb hf; go_simp; (try go_bits); (try rfl); done)); (try simp only [Act.put, List.setIfInBounds_toArray, List.set_cons_zero, List.set_cons_succ])))
          apply Calm.op_call
          focus rfl
          focus (intro W hb; obtain ⟨hc, hf⟩ := bcell hb; clear hb hf; go_simp; refine ⟨?_, ?_⟩; rfl; rfl)
          focus (intro W hb; exact Calm.call_same hb (HAX.out _))
          (try simp only [Act.put, List.setIfInBounds_toArray, List.set_cons_zero, List.set_cons_succ])
          (first | (apply Calm.op_move; (focus rfl); (focus (first | exact .inl rfl | exact .inr rfl)); (focus ((try simp only [Act.eval, Array.getD_eq_getD_getElem?, List.getElem?_toArray, List.getElem?_cons_succ, List.getElem?_cons_zero, Option.getD_some]); rfl)); (try simp only [Act.put, List.setIfInBounds_toArray, List.set_cons_zero, List.set_cons_succ])) | (apply Calm.op_not; (focus rfl); (try simp only [Act.put, List.setIfInBounds_toArray, List.set_cons_zero, List.set_cons_succ])) | (apply Calm.op; (focus rfl); (focus (intro W hb; obtain ⟨hc, hf⟩ := bcell hb; clear hb hf; go_simp; (try go_bits); (try rfl); done)); (try simp only [Act.put, List.setIfInBounds_toArray, List.set_cons_zero, List.set_cons_succ])))
          (first | (apply Calm.op_move; (focus rfl); (focus (first | exact .inl rfl | exact .inr rfl)); (focus ((try simp only [Act.eval, Array.getD_eq_getD_getElem?, List.getElem?_toArray, List.getElem?_cons_succ, List.getElem?_cons_zero, Option.getD_some]); rfl)); (try simp only [Act.put, List.setIfInBounds_toArray, List.set_cons_zero, List.set_cons_succ])) | (apply Calm.op_not; (focus rfl); (try simp only [Act.put, List.setIfInBounds_toArray, List.set_cons_zero, List.set_cons_succ])) | (apply Calm.op; (focus rfl); (focus (intro W hb; obtain ⟨hc, hf⟩ := bcell hb; clear hb hf; go_simp; (try go_bits); (try rfl); done)); (try simp only [Act.put, List.setIfInBounds_toArray, List.set_cons_zero, List.set_cons_succ])))
          (first | (apply Calm.op_move; (focus rfl); (focus (first | exact .inl rfl | exact .inr rfl)); (focus ((try simp only [Act.eval, Array.getD_eq_getD_getElem?, List.getElem?_toArray, List.getElem?_cons_succ, List.getElem?_cons_zero, Option.getD_some]); rfl)); (try simp only [Act.put, List.setIfInBounds_toArray, List.set_cons_zero, List.set_cons_succ])) | (apply Calm.op_not; (focus rfl); (try simp only [Act.put, List.setIfInBounds_toArray, List.set_cons_zero, List.set_cons_succ])) | (apply Calm.op; (focus rfl); (focus (intro W hb; obtain ⟨hc, hf⟩ := bcell hb; clear hb hf; go_simp; (try go_bits); (try rfl); done)); (try simp only [Act.put, List.setIfInBounds_toArray, List.set_cons_zero, List.set_cons_succ])))
          (try simp only [hbx])
          (first | (apply Calm.op_move; (focus rfl); (focus (first | exact .inl rfl | exact .inr rfl)); (focus ((try simp only [Act.eval, Array.getD_eq_getD_getElem?, List.getElem?_toArray, List.getElem?_cons_succ, List.getElem?_cons_zero, Option.getD_some]); rfl)); (try simp only [Act.put, List.setIfInBounds_toArray, List.set_cons_zero, List.set_cons_succ])) | (apply Calm.op_not; (focus rfl); (try simp only [Act.put, List.setIfInBounds_toArray, List.set_cons_zero, List.set_cons_succ])) | (apply Calm.op; (focus rfl); (focus (intro W hb; obtain ⟨hc, hf⟩ := bcell hb; clear hb hf; go_simp; (try go_bits); (try rfl); done)); (try simp only [Act.put, List.setIfInBounds_toArray, List.set_cons_zero, List.set_cons_succ])))
          (try simp only [hbx])
          (first | (apply Calm.op_move; (focus rfl); (focus (first | exact .inl rfl | exact .inr rfl)); (focus ((try simp only [Act.eval, Array.getD_eq_getD_getElem?, List.getElem?_toArray, List.getElem?_cons_succ, List.getElem?_cons_zero, Option.getD_some]); rfl)); (try simp only [Act.put, List.setIfInBounds_toArray, List.set_cons_zero, List.set_cons_succ])) | (apply Calm.op_not; (focus rfl); (try simp only [Act.put, List.setIfInBounds_toArray, List.set_cons_zero, List.set_cons_succ])) | (apply Calm.op; (focus rfl); (focus (intro W hb; obtain ⟨hc, hf⟩ := bcell hb; clear hb hf; go_simp; (try go_bits); (try rfl); done)); (try simp only [Act.put, List.setIfInBounds_toArray, List.set_cons_zero, List.set_cons_succ])))
          (first | (apply Calm.op_move; (focus rfl); (focus (first | exact .inl rfl | exact .inr rfl)); (focus ((try simp only [Act.eval, Array.getD_eq_getD_getElem?, List.getElem?_toArray, List.getElem?_cons_succ, List.getElem?_cons_zero, Option.getD_some]); rfl)); (try simp only [Act.put, List.setIfInBounds_toArray, List.set_cons_zero, List.set_cons_succ])) | (apply Calm.op_not; (focus rfl); (try simp only [Act.put, List.setIfInBounds_toArray, List.set_cons_zero, List.set_cons_succ])) | (apply Calm.op; (focus rfl); (focus (intro W hb; obtain ⟨hc, hf⟩ := bcell hb; clear hb hf; go_simp; (try go_bits); (try rfl); done)); (try simp only [Act.put, List.setIfInBounds_toArray, List.set_cons_zero, List.set_cons_succ])))
          apply Calm.op_call
          focus rfl
          focus (intro W hb; obtain ⟨hc, hf⟩ := bcell hb; clear hb hf; go_simp; refine ⟨?_, ?_⟩; rfl; rfl)
          focus (intro W hb; exact Calm.call_below hb (HSS.out _ (KG.st _ _ _ _ _ _ _ _ _ _ HU2.out hb) (KT.st _ _ _ _ _ _ _ HT2.out hb)))
          (try simp only [Act.put, List.setIfInBounds_toArray, List.set_cons_zero, List.set_cons_succ])
          (first | (apply Calm.op_move; (focus rfl); (focus (first | exact .inl rfl | exact .inr rfl)); (focus ((try simp only [Act.eval, Array.getD_eq_getD_getElem?, List.getElem?_toArray, List.getElem?_cons_succ, List.getElem?_cons_zero, Option.getD_some]); rfl)); (try simp only [Act.put, List.setIfInBounds_toArray, List.set_cons_zero, List.set_cons_succ])) | (apply Calm.op_not; (focus rfl); (try simp only [Act.put, List.setIfInBounds_toArray, List.set_cons_zero, List.set_cons_succ])) | (apply Calm.op; (focus rfl); (focus (intro W hb; obtain ⟨hc, hf⟩ := bcell hb; clear hb hf; go_simp; (try go_bits); (try rfl); done)); (try simp only [Act.put, List.setIfInBounds_toArray, List.set_cons_zero, List.set_cons_succ])))
          (first | (apply Calm.op_move; (focus rfl); (focus (first | exact .inl rfl | exact .inr rfl)); (focus ((try simp only [Act.eval, Array.getD_eq_getD_getElem?, List.getElem?_toArray, List.getElem?_cons_succ, List.getElem?_cons_zero, Option.getD_some]); rfl)); (try simp only [Act.put, List.setIfInBounds_toArray, List.set_cons_zero, List.set_cons_succ])) | (apply Calm.op_not; (focus rfl); (try simp only [Act.put, List.setIfInBounds_toArray, List.set_cons_zero, List.set_cons_succ])) | (apply Calm.op; (focus rfl); (focus (intro W hb; obtain ⟨hc, hf⟩ := bcell hb; clear hb hf; go_simp; (try go_bits); (try rfl); done)); (try simp only [Act.put, List.setIfInBounds_toArray, List.set_cons_zero, List.set_cons_succ])))
          refine wpQuiet_nil ?_
          intro w9 hb9
          obtain ⟨hb9c, hb9f⟩ := bcell hb9
          have hb9z := hb9.size
          (try simp at hb9z)
          (try have hb9z0 : w.heap.size < w9.heap.size := by omega)
          (try have hb9z1 : w.heap.size + 1 < w9.heap.size := by omega)
          (try have hb9z2 : w.heap.size + 1 + 1 < w9.heap.size := by omega)
          (try have hb9z3 : w.heap.size + 1 + 1 + 1 < w9.heap.size := by omega)
          (try have hb9z4 : w.heap.size + 1 + 1 + 1 + 1 < w9.heap.size := by omega)
          (try have hb9z5 : w.heap.size + 1 + 1 + 1 + 1 + 1 < w9.heap.size := by omega)
          have HB9 := Lib.hid (HB21.out.trans (hb9.mono HB21.out.size))
          have KC9 := Lib.hid (KC2.out.below hb9)
          go_wp2
          go_roundw
          case rel => exact ⟨k + 1, B, c, by omega, by go_num, by rw [HS.out, HLB.out, ← HNB.out], by rw [HS.out, HFB.out], by rw [HS.out, HLB.out]; exact KC9.out, HB9.out⟩
          case measure => simp [intOf]; omega
        · have HU5 := Lib.hid (HU2s.out (by omega) rfl)
          have HRD : Hid (∀ {u v x : Value} (W : World), KG lk ht rc M ts L gs u W → KT H1 lv Q P1 v W → KS K ls x W → Calls Tryd.prog 97 #[u, v, x, (.int .i64 ((n : Int)))] W (KP (LoR OR) W)) := Lib.hid (fun W q1 q2 q3 => HRC.out rfl W q1 q2 q3)
          go_wp2
          refine Calm.all_below (by kernel_rfl) (by kernel_rfl) ?_
          (first | (apply Calm.op_move; (focus rfl); (focus (first | exact .inl rfl | exact .inr rfl)); (focus ((try simp only [Act.eval, Array.getD_eq_getD_getElem?, List.getElem?_toArray, List.getElem?_cons_succ, List.getElem?_cons_zero, Option.getD_some]); rfl)); (try simp only [Act.put, List.setIfInBounds_toArray, List.set_cons_zero, List.set_cons_succ])) | (apply Calm.op_not; (focus rfl); (try simp only [Act.put, List.setIfInBounds_toArray, List.set_cons_zero, List.set_cons_succ])) | (apply Calm.op; (focus rfl); (focus (intro W hb; obtain ⟨hc, hf⟩ := bcell hb; clear hb hf; go_simp; (try go_bits); (try rfl); done)); (try simp only [Act.put, List.setIfInBounds_toArray, List.set_cons_zero, List.set_cons_succ])))
          apply Calm.op_call
          focus rfl
          focus (intro W hb; obtain ⟨hc, hf⟩ := bcell hb; clear hb hf; go_simp; refine ⟨?_, ?_⟩; rfl; rfl)
          focus (intro W hb; exact Calm.call_same hb (HAX.out _))
          (try simp only [Act.put, List.setIfInBounds_toArray, List.set_cons_zero, List.set_cons_succ])
          (first | (apply Calm.op_move; (focus rfl); (focus (first | exact .inl rfl | exact .inr rfl)); (focus ((try simp only [Act.eval, Array.getD_eq_getD_getElem?, List.getElem?_toArray, List.getElem?_cons_succ, List.getElem?_cons_zero, Option.getD_some]); rfl)); (try simp only [Act.put, List.setIfInBounds_toArray, List.set_cons_zero, List.set_cons_succ])) | (apply Calm.op_not; (focus rfl); (try simp only [Act.put, List.setIfInBounds_toArray, List.set_cons_zero, List.set_cons_succ])) | (apply Calm.op; (focus rfl); (focus (intro W hb; obtain ⟨hc, hf⟩ := bcell hb; clear hb hf; go_simp; (try go_bits); (try rfl); done)); (try simp only [Act.put, List.setIfInBounds_toArray, List.set_cons_zero, List.set_cons_succ])))
          (first | (apply Calm.op_move; (focus rfl); (focus (first | exact .inl rfl | exact .inr rfl)); (focus ((try simp only [Act.eval, Array.getD_eq_getD_getElem?, List.getElem?_toArray, List.getElem?_cons_succ, List.getElem?_cons_zero, Option.getD_some]); rfl)); (try simp only [Act.put, List.setIfInBounds_toArray, List.set_cons_zero, List.set_cons_succ])) | (apply Calm.op_not; (focus rfl); (try simp only [Act.put, List.setIfInBounds_toArray, List.set_cons_zero, List.set_cons_succ])) | (apply Calm.op; (focus rfl); (focus (intro W hb; obtain ⟨hc, hf⟩ := bcell hb; clear hb hf; go_simp; (try go_bits); (try rfl); done)); (try simp only [Act.put, List.setIfInBounds_toArray, List.set_cons_zero, List.set_cons_succ])))
          (first | (apply Calm.op_move; (focus rfl); (focus (first | exact .inl rfl | exact .inr rfl)); (focus ((try simp only [Act.eval, Array.getD_eq_getD_getElem?, List.getElem?_toArray, List.getElem?_cons_succ, List.getElem?_cons_zero, Option.getD_some]); rfl)); (try simp only [Act.put, List.setIfInBounds_toArray, List.set_cons_zero, List.set_cons_succ])) | (apply Calm.op_not; (focus rfl); (try simp only [Act.put, List.setIfInBounds_toArray, List.set_cons_zero, List.set_cons_succ])) | (apply Calm.op; (focus rfl); (focus (intro W hb; obtain ⟨hc, hf⟩ := bcell hb; clear hb hf; go_simp; (try go_bits); (try rfl); done)); (try simp only [Act.put, List.setIfInBounds_toArray, List.set_cons_zero, List.set_cons_succ])))
          (try simp only [hbx])
          (first | (apply Calm.op_move; (focus rfl); (focus (first | exact .inl rfl | exact .inr rfl)); (focus ((try simp only [Act.eval, Array.getD_eq_getD_getElem?, List.getElem?_toArray, List.getElem?_cons_succ, List.getElem?_cons_zero, Option.getD_some]); rfl)); (try simp only [Act.put, List.setIfInBounds_toArray, List.set_cons_zero, List.set_cons_succ])) | (apply Calm.op_not; (focus rfl); (try simp only [Act.put, List.setIfInBounds_toArray, List.set_cons_zero, List.set_cons_succ])) | (apply Calm.op; (focus rfl); (focus (intro W hb; obtain ⟨hc, hf⟩ := bcell hb; clear hb hf; go_simp; (try go_bits); (try rfl); done)); (try simp only [Act.put, List.setIfInBounds_toArray, List.set_cons_zero, List.set_cons_succ])))
          (try simp only [hbx])
          (first | (apply Calm.op_move; (focus rfl); (focus (first | exact .inl rfl | exact .inr rfl)); (focus ((try simp only [Act.eval, Array.getD_eq_getD_getElem?, List.getElem?_toArray, List.getElem?_cons_succ, List.getElem?_cons_zero, Option.getD_some]); rfl)); (try simp only [Act.put, List.setIfInBounds_toArray, List.set_cons_zero, List.set_cons_succ])) | (apply Calm.op_not; (focus rfl); (try simp only [Act.put, List.setIfInBounds_toArray, List.set_cons_zero, List.set_cons_succ])) | (apply Calm.op; (focus rfl); (focus (intro W hb; obtain ⟨hc, hf⟩ := bcell hb; clear hb hf; go_simp; (try go_bits); (try rfl); done)); (try simp only [Act.put, List.setIfInBounds_toArray, List.set_cons_zero, List.set_cons_succ])))
          (first | (apply Calm.op_move; (focus rfl); (focus (first | exact .inl rfl | exact .inr rfl)); (focus ((try simp only [Act.eval, Array.getD_eq_getD_getElem?, List.getElem?_toArray, List.getElem?_cons_succ, List.getElem?_cons_zero, Option.getD_some]); rfl)); (try simp only [Act.put, List.setIfInBounds_toArray, List.set_cons_zero, List.set_cons_succ])) | (apply Calm.op_not; (focus rfl); (try simp only [Act.put, List.setIfInBounds_toArray, List.set_cons_zero, List.set_cons_succ])) | (apply Calm.op; (focus rfl); (focus (intro W hb; obtain ⟨hc, hf⟩ := bcell hb; clear hb hf; go_simp; (try go_bits); (try rfl); done)); (try simp only [Act.put, List.setIfInBounds_toArray, List.set_cons_zero, List.set_cons_succ])))
          apply Calm.op_call
          focus rfl
          focus (intro W hb; obtain ⟨hc, hf⟩ := bcell hb; clear hb hf; go_simp; refine ⟨?_, ?_⟩; rfl; rfl)
          focus (intro W hb; exact Calm.call_below hb (HSS.out _ (KG.st _ _ _ _ _ _ _ _ _ _ HU2.out hb) (KT.st _ _ _ _ _ _ _ HT2.out hb)))
          (try simp only [Act.put, List.setIfInBounds_toArray, List.set_cons_zero, List.set_cons_succ])
          (first | (apply Calm.op_move; (focus rfl); (focus (first | exact .inl rfl | exact .inr rfl)); (focus ((try simp only [Act.eval, Array.getD_eq_getD_getElem?, List.getElem?_toArray, List.getElem?_cons_succ, List.getElem?_cons_zero, Option.getD_some]); rfl)); (try simp only [Act.put, List.setIfInBounds_toArray, List.set_cons_zero, List.set_cons_succ])) | (apply Calm.op_not; (focus rfl); (try simp only [Act.put, List.setIfInBounds_toArray, List.set_cons_zero, List.set_cons_succ])) | (apply Calm.op; (focus rfl); (focus (intro W hb; obtain ⟨hc, hf⟩ := bcell hb; clear hb hf; go_simp; (try go_bits); (try rfl); done)); (try simp only [Act.put, List.setIfInBounds_toArray, List.set_cons_zero, List.set_cons_succ])))
          (first | (apply Calm.op_move; (focus rfl); (focus (first | exact .inl rfl | exact .inr rfl)); (focus ((try simp only [Act.eval, Array.getD_eq_getD_getElem?, List.getElem?_toArray, List.getElem?_cons_succ, List.getElem?_cons_zero, Option.getD_some]); rfl)); (try simp only [Act.put, List.setIfInBounds_toArray, List.set_cons_zero, List.set_cons_succ])) | (apply Calm.op_not; (focus rfl); (try simp only [Act.put, List.setIfInBounds_toArray, List.set_cons_zero, List.set_cons_succ])) | (apply Calm.op; (focus rfl); (focus (intro W hb; obtain ⟨hc, hf⟩ := bcell hb; clear hb hf; go_simp; (try go_bits); (try rfl); done)); (try simp only [Act.put, List.setIfInBounds_toArray, List.set_cons_zero, List.set_cons_succ])))
          refine wpQuiet_nil ?_
          intro w9 hb9
          obtain ⟨hb9c, hb9f⟩ := bcell hb9
          have hb9z := hb9.size
          (try simp at hb9z)
          (try have hb9z0 : w.heap.size < w9.heap.size := by omega)
          (try have hb9z1 : w.heap.size + 1 < w9.heap.size := by omega)
          (try have hb9z2 : w.heap.size + 1 + 1 < w9.heap.size := by omega)
          (try have hb9z3 : w.heap.size + 1 + 1 + 1 < w9.heap.size := by omega)
          (try have hb9z4 : w.heap.size + 1 + 1 + 1 + 1 < w9.heap.size := by omega)
          (try have hb9z5 : w.heap.size + 1 + 1 + 1 + 1 + 1 < w9.heap.size := by omega)
          have HB9 := Lib.hid (HB21.out.trans (hb9.mono HB21.out.size))
          have KC9 := Lib.hid (KC2.out.below hb9)
          have HU9 := Lib.hid (KG.st _ _ _ _ _ _ _ _ _ _ HU2.out hb9)
          have HX9 := Lib.hid (KS.st _ _ _ _ _ HX2.out hb9)
          have HT9 := Lib.hid (KT.st _ _ _ _ _ _ _ HT2.out hb9)
          have bg9 := Lib.hid (bg_21.out.below hb9)
          have bn9 := Lib.hid (bn_21.out.below hb9)
          clear hb9 g0 g1 g2 g3 g4 gl n0 n1 n2 nl HU2 HX2 HT2 KC2 HSS HAX hbx hfar
          obtain ⟨g0, g1, g2, g3, g4, gl, -⟩ := bg9.out.o5
          obtain ⟨n0, n1, n2, nl, -⟩ := bn9.out.o3
          go_wp2_with (go_at_call 97; refine (HRD.out _ HU9.out HT9.out HX9.out).mono ?_; rintro r w10 ⟨v10, rfl, ⟨_, _, rfl, ⟨RB, Rc, rfl, hrc⟩, rfl⟩, hb10⟩; refine Hid.out ?_)
          have HB10 := Lib.hid (HB9.out.trans (hb10.mono HB9.out.size))
          have KC10 := Lib.hid (KC9.out.below hb10)
          have HRB := Lib.hid hrc
          have HX10 := Lib.hid (KS.st _ _ _ _ _ HX9.out hb10)
          clear hb10 hrc g0 g1 g2 g3 g4 gl n0 n1 n2 nl bg9 bn9 HU9 HT9 HX9 HB9 KC9 HRC HRD
          obtain ⟨_, _, ee, hxc⟩ := HX10.out
          cases ee
          obtain ⟨bx, ox, hAx, hxl, hxcell⟩ := hxc (by rw [← HK.out]; omega)
          cases hAx
          have hck := hxcell k (by rw [← HK.out]; exact hlt)
          rw [← HY.out] at hck
          clear hxc hxcell
          rw [HLR.out] at HRB
          rw [HLR.out, ← HNR.out, HIR.out]
          unfold Hid
          go_wp2_with (at_builtin; refine name_list ?_; intro w11 e11; refine Hid.out ?_)
          have hb11 : Below w10.heap.size w10 w11 := by rw [e11]; exact bel
          have hg11 : w11.heap[w10.heap.size]? = some (.cells #[(.int .i64 y)] 3 (0, 0)) := by rw [e11]; exact heap_new rfl
          have HB11 := Lib.hid (HB10.out.trans (hb11.mono HB10.out.size))
          have KC11 := Lib.hid (KC10.out.below hb11)
          have HRB11 := Lib.hid (HRB.out.below hb11)
          clear e11 hb11 HRB KC10 HB10 hck
          unfold Hid
          refine wpList_appY rfl _ _ rfl w10.heap.size NR Rc RB y LR HNR.out rfl rfl hg11 (by omega) HRB11.out ?_
          intro BA dA w12 hb12 hk12 _ _ _
          obtain ⟨_, _, ee, hc12⟩ := hk12.ks
          cases ee
          have HB12 := Lib.hid (HB11.out.trans (hb12.mono HB11.out.size))
          have KC12 := Lib.hid (KC11.out.below hb12)
          have HL12 := Lib.hid hc12
          clear hb12 hk12 hc12 hg11 HRB11 KC11 HB11
          cases IR
          · have HS := Lib.hid (HU5.out.1 (by simp))
            go_wp2
            go_roundw
            case rel => exact ⟨k + 1, B, c, by omega, by go_num, by rw [HS.out, HLB.out, ← HNB.out], by rw [HS.out, HFB.out], by rw [HS.out, HLB.out]; exact KC12.out, HB12.out⟩
            case measure => simp [intOf]; omega
          · cases FB
            · have HS := Lib.hid (HU5.out.2.1 (by simp) (by simp))
              go_wp2
              go_roundw
              case rel => exact ⟨k + 1, BA, dA, by omega, by go_num, by rw [HS.out]; show _ = Value.slice BA (y :: LR).length dA; rw [List.length_cons, ← HNR.out], by rw [HS.out]; rfl, by rw [HS.out]; exact HL12.out, HB12.out⟩
              case measure => simp [intOf]; omega
            · have HE1 : Hid (∀ W, Cells W BA (y :: LR) → Calls Tryd.prog 60 #[.slice BA (NR + 1) dA] W (KP (KV (.int .i64 E1)) W)) := Lib.hid (fun W q => HEN.out.1 _ W ⟨_, _, rfl, q⟩)
              have HE2 : Hid (∀ W, Cells W B LB → Calls Tryd.prog 60 #[.slice B NB c] W (KP (KV (.int .i64 E2)) W)) := Lib.hid (fun W q => HEN.out.2 _ W ⟨_, _, rfl, q⟩)
              go_wp2_with (go_at_call 60; refine (HE1.out _ HL12.out).mono ?_; rintro r w13 ⟨v13, rfl, rfl, hb13⟩; refine Hid.out ?_)
              have HB13 := Lib.hid (HB12.out.trans (hb13.mono HB12.out.size))
              have KC13 := Lib.hid (KC12.out.below hb13)
              have HL13 := Lib.hid (HL12.out.below hb13)
              clear hb13 KC12 HL12 HB12 HE1
              unfold Hid
              go_wp2_with (go_at_call 60; refine (HE2.out _ KC13.out).mono ?_; rintro r w14 ⟨v14, rfl, rfl, hb14⟩; refine Hid.out ?_)
              have HB14 := Lib.hid (HB13.out.trans (hb14.mono HB13.out.size))
              have KC14 := Lib.hid (KC13.out.below hb14)
              have HL14 := Lib.hid (HL13.out.below hb14)
              clear hb14 KC13 HL13 HB13 HE2
              unfold Hid
              by_cases hee : E2 < E1
              · have HS := Lib.hid (HU5.out.2.2.1 (by simp) (by simp) hee)
                go_wp2
                go_roundw
                case rel => exact ⟨k + 1, BA, dA, by omega, by go_num, by rw [HS.out]; show _ = Value.slice BA (y :: LR).length dA; rw [List.length_cons, ← HNR.out], by rw [HS.out]; rfl, by rw [HS.out]; exact HL14.out, HB14.out⟩
                case measure => simp [intOf]; omega
              · have HS := Lib.hid (HU5.out.2.2.2 (by simp) (by simp) (by omega))
                go_wp2
                go_roundw
                case rel => exact ⟨k + 1, B, c, by omega, by go_num, by rw [HS.out, HLB.out, ← HNB.out], by rw [HS.out, HFB.out], by rw [HS.out, HLB.out]; exact KC14.out, HB14.out⟩
                case measure => simp [intOf]; omega
    · obtain rfl : k = K := by omega
      go_wp2
      exact bodyPost_ret (v := .tuple #[.slice B ((RF k).getD []).length c, .bool (RF k).isSome]) (by simp [results, Tryd.results97, go_sem]) rfl ⟨_, rfl, (by rw [HRK.out]; exact ⟨_, _, rfl, ⟨B, c, rfl, KC.out⟩, rfl⟩), HB1.out.trans (KB.out.mono HB1.out.size)⟩
theorem loC_any {lk ht rc : Int} {ts gs ls : List Int} {M L Q K : Nat} (hV : Valid lk ht rc ts gs) (hM : M = ts.length) (hQ : M = Q + 1) (hK : K = ls.length) (hK5 : K ≤ 1000) (hls : inB 2048 ls) : ∀ n, n ≤ 100 → LoC lk ht rc ts gs ls M L Q K n
  | 0, _ => loC_zero lk ht rc ts gs ls M L Q K
  | n + 1, h => loC_succ hV hM hQ hK hK5 (by omega) hls (loC_any hV hM hQ hK hK5 hls n (by omega))
end Go.Proofs.YtdeapbihbhoefaaDoor

/- Contracts of the program and of the reference as the cases of ProtectStates want them. -/
namespace Go.Proofs.YtdeapbihbhoefaaDoor
open Go.RowKit
open Calm (bcell Blk)
section
variable {lk ht rc h lv x : Int} {ts gs l : List Int} {M L n : Nat} {a y : Value} {W : World} (hM : M = ts.length) (hL : L = gs.length) (hn : n = l.length) (h1 : M ≤ 1000) (h2 : L ≤ 1000) (h3 : n ≤ 1000) (hLim : Lim W) (hu : KG lk ht rc M ts L gs a W) (hv : KT h lv n l y W)
include hM hL hn h1 h2 h3 hLim hu hv
end
end Go.Proofs.YtdeapbihbhoefaaDoor

/- The reference's Loudest; the errors of a search. -/
namespace Go.Proofs.YtdeapbihbhoefaaDoor
open Go.RowKit
open Calm (bcell Blk)
theorem loudErr_three (lk ht rc : Int) (ts gs xs : List Int) (n : Int) : loudErr lk ht rc ts gs xs n = firstOf [guardErr lk ht rc ts gs, firstOf [someErr (xs.length : Int) 6, ascErr xs (-2048) 2048], rangeErr n 0 6] := by
  unfold loudErr
  generalize guardErr lk ht rc ts gs = a
  generalize someErr (xs.length : Int) 6 = b
  generalize ascErr xs (-2048) 2048 = c
  generalize rangeErr n 0 6 = d
  by_cases ha : a = 0
  · subst ha
    rw [fo_cons0, fo_cons0]
    by_cases hb : b = 0
    · subst hb
      rw [fo_cons0, fo_cons0]
      by_cases hc : c = 0
      · subst hc
        rw [fo_cons0, show firstOf [(0 : Int)] = 0 from rfl, fo_cons0]
      · rw [fo_consN hc, fo_consN hc, fo_consN hc]
    · rw [fo_consN hb, fo_consN hb, fo_consN hb]
  · rw [fo_consN ha, fo_consN ha]
set_option maxRecDepth 100000 in
set_option maxHeartbeats 4000000 in
theorem rLoudest_walk {lk ht rc E : Int} {ts gs ls LR : List Int} {M L Q K n NR : Nat} {FS : Bool} {A1 A2 A5 : Option Addr} {c1 c2 c5 : Nat} {w : World} (hT : Cells w A1 ts) (hG : Cells w A2 gs) (hX : Cells w A5 ls) (hn : n ≤ 100)
    (HBE : Hid (∀ {u : Value} (W : World), KG lk ht rc M ts L gs u W → Calls Tryd.prog 19 #[u] W (KP (KTI 0 ((L - 1 : Nat) : Int) Q (List.replicate Q 0)) W)))
    (HLO : Hid (∀ {u v x : Value} (W : World), KG lk ht rc M ts L gs u W → KT 0 ((L - 1 : Nat) : Int) Q (List.replicate Q 0) v W → KS K ls x W → Calls Tryd.prog 97 #[u, v, x, (.int .i64 ((n : Int)))] W (KP (K2 (KS NR LR) (KV (.bool FS))) W)))
    (HN0 : Hid (FS = false → NR = 0 ∧ LR = [])) (HE0 : Hid ((FS = true → E = 0) ∧ (FS = false → E = 24))) :
    Calls Tryd.prog 59 #[.agg #[(.int .i64 lk), (.int .i64 ht), .slice A1 M c1, (.int .i64 rc), .slice A2 L c2], .slice A5 K c5, (.int .i64 ((n : Int)))] w (KP (K2 (KS NR LR) (KV (.int .i64 E))) w) := by
  have HU := Lib.hid (show KG lk ht rc M ts L gs (.agg #[(.int .i64 lk), (.int .i64 ht), .slice A1 M c1, (.int .i64 rc), .slice A2 L c2]) w from ⟨_, _, _, _, rfl, hT, hG⟩)
  have HX := Lib.hid (show KS K ls (.slice A5 K c5) w from ⟨_, _, rfl, hX⟩)
  clear hT hG hX
  go_enter Tryd.func59, Tryd.ntmps59
  have HB0 := Lib.hid (Below.refl w.heap.size w)
  go_wp2
  refine name_world ?_
  intro w1 e1
  have bg_1 := Lib.hid (show Blk w1 w.heap.size #[(.int .i64 lk), (.int .i64 ht), .slice A1 M c1, (.int .i64 rc), .slice A2 L c2] from by rw [e1]; (repeat (first | ((with_reducible refine Blk.at_ ?_); focus (first | rfl | (simp; done) | (simp; omega))) | (with_reducible refine Blk.alloc ?_ _) | (with_reducible refine Blk.below ?_ (by with_reducible assumption)) | (with_reducible refine Blk.drew ?_))))
  have h1 : Below w.heap.size w w1 := by rw [e1]; exact bel
  have HB1 := Lib.hid h1
  have HU1 := Lib.hid (KG.st _ _ _ _ _ _ _ _ _ _ HU.out h1)
  have HX1 := Lib.hid (KS.st _ _ _ _ _ HX.out h1)
  clear e1 h1
  obtain ⟨g0, g1, g2, g3, g4, gl, -⟩ := bg_1.out.o5
  refine Rel.region3 10 (by kernel_rfl) (by kernel_rfl) (by kernel_rfl) ?_
  simp only [List.take_succ_cons, List.take_zero, List.drop_succ_cons, List.drop_zero, List.filterMap_cons, List.filterMap_nil]
  iterate 2 (refine Rel.opz (hn := ?_); (try simp only [List.nil_append, List.cons_append]))
  refine Rel.callK 19 (KTI 0 ((L - 1 : Nat) : Int) Q (List.replicate Q 0)) ((KTI.st _ _ _ _)) (Rel.gno rfl) ?_ ?_
  · intro a W hb hd hbase
    have q1 : a.eval (.tmp 12) = _ := (Rel.dep_at hd 1 rfl rfl)
    refine ⟨#[a.eval (.tmp 12)], ?_, by rw [q1]; exact HBE.out _ (KG.st _ _ _ _ _ _ _ _ _ _ HU1.out hb)⟩
    clear hd hbase hb
    go_simp
    (first | done | rfl | (refine ⟨?_, ?_⟩ <;> rfl))
  (try simp only [List.nil_append, List.cons_append])
  iterate 2 (refine Rel.opz (hn := ?_); (try simp only [List.nil_append, List.cons_append]))
  refine Rel.callK 97 (K2 (KS NR LR) (KV (.bool FS))) ((K2.st (KS.st _ _) (KV.st _))) (Rel.gno rfl) ?_ ?_
  · intro a W hb hd hbase
    have q1 : a.eval (.tmp 11) = _ := (Rel.dep_at hd 0 rfl rfl)
    have q3 : a.eval (.tmp 14) = _ := (Rel.dep_at hd 3 rfl rfl)
    have q4 : a.eval (.tmp 15) = _ := (Rel.dep_at hd 4 rfl rfl)
    refine ⟨#[a.eval (.tmp 11), a.eval (.tmp 13), a.eval (.tmp 14), a.eval (.tmp 15)], ?_, by rw [q1, q3, q4]; exact HLO.out _ (KG.st _ _ _ _ _ _ _ _ _ _ HU1.out hb) (Rel.dep_at hd 2 rfl rfl).kt (KS.st _ _ _ _ _ HX1.out hb)⟩
    clear hd hbase hb
    go_simp
    (first | done | rfl | (refine ⟨?_, ?_⟩ <;> rfl))
  (try simp only [List.nil_append, List.cons_append])
  refine Rel.mvK 16 5 rfl rfl rfl ((K2.st (KS.st _ _) (KV.st _))) (Rel.gno rfl) ?_
  (try simp only [List.nil_append, List.cons_append])
  refine Rel.ext20 10 6 rfl rfl rfl ((KS.st _ _)) (Rel.gno rfl) ?_
  (try simp only [List.nil_append, List.cons_append])
  refine Rel.ext21 10 6 rfl rfl rfl ((KV.st _)) (Rel.gno rfl) ?_
  (try simp only [List.nil_append, List.cons_append])
  refine Rel.asgK 17 7 rfl rfl rfl ((KS.st _ _)) (Rel.gno rfl) ?_
  (try simp only [List.nil_append, List.cons_append])
  refine Rel.done3 ?_
  intro x w21 h21 hx
  simp only [Rel.facts, Nat.zero_add, Nat.reduceAdd] at hx
  obtain ⟨e0, e1, _, e3, e4, _, _, _, e8, ⟨LB, Lc, e9, hLB⟩, _⟩ := hx
  have e8 : x 8 = _ := e8
  simp only [Rel.fill, Nat.zero_add, Nat.reduceAdd, e0, e1, e3, e4, e8, e9]
  simp only [Act.put, List.setIfInBounds_toArray, List.set_cons_zero, List.set_cons_succ]
  clear e0 e1 e3 e4 e8 e9
  have bg_21 := Lib.hid (bg_1.out.below h21)
  have HB21 := Lib.hid (HB1.out.trans (h21.mono HB1.out.size))
  have HLB := Lib.hid hLB
  clear hLB h21 g0 g1 g2 g3 g4 gl
  cases FS
  · have hl := HN0.out rfl
    obtain ⟨z1, z2⟩ := hl
    subst z1 z2
    have HE := HE0.out.2 rfl
    clear HE0
    go_wp2
    exact bodyPost_ret (v := .tuple #[.slice none 0 0, (.int .i64 24)]) (by simp [results, Tryd.results59, go_sem]) rfl ⟨_, rfl, ⟨_, _, rfl, KS.nil _, (by first | rfl | (show _ = _; rw [HE]))⟩, HB21.out⟩
  · have HE := HE0.out.1 rfl
    clear HE0
    go_wp2
    exact bodyPost_ret (v := .tuple #[.slice LB NR Lc, (.int .i64 0)]) (by simp [results, Tryd.results59, go_sem]) rfl ⟨_, rfl, ⟨_, _, rfl, ⟨_, _, rfl, HLB.out⟩, (by first | rfl | (show _ = _; rw [HE]))⟩, HB21.out⟩
theorem rLoudest_K {lk ht rc : Int} {ts gs ls : List Int} {M L K n : Nat} {u x : Value} {W : World} (hV : Valid lk ht rc ts gs) (hM : M = ts.length) (hL : L = gs.length) (hK : K = ls.length) (hK5 : K ≤ 1000) (hls : inB 2048 ls) (hn : n ≤ 100) (hu : KG lk ht rc M ts L gs u W) (hx : KS K ls x W) :
    Calls Tryd.prog 59 #[u, x, (.int .i64 ((n : Int)))] W (KP (K2 (KS ((loudF lk ht rc ts gs ls n).getD []).length ((loudF lk ht rc ts gs ls n).getD [])) (KV (.int .i64 (if (loudF lk ht rc ts gs ls n).isSome then 0 else 24)))) W) := by
  obtain ⟨A1, c1, A2, c2, rfl, hT, hG⟩ := hu
  obtain ⟨A5, c5, rfl, hX⟩ := hx
  have h1 := hV.tl
  have h2 := hV.gl
  have h3 := hV.ht
  have e := refL_loud lk ht rc ts gs ls n
  rw [← e]
  refine rLoudest_walk (Q := M - 1) (FS := (refL lk ht rc ts ls n 0 (List.replicate (ts.length - 1) 0)).isSome) hT hG hX hn (Lib.hid (fun W q => rBegin_K (by omega) (by omega) q)) (Lib.hid (fun W q1 q2 q3 => ?_)) (Lib.hid (fun h => ?_)) (Lib.hid ⟨fun h => by rw [h]; rfl, fun h => by rw [h]; rfl⟩)
  · have hr : inB 2048 (List.replicate (M - 1) 0) := fun z hz => by obtain rfl := List.eq_of_mem_replicate hz; omega
    have := loC_any hV hM (Q := M - 1) (by omega) hK hK5 hls n hn _ _ _ 0 _ (List.replicate (M - 1) 0) W ⟨by omega, by omega⟩ (by simp) hr q1 q2 q3
    rw [hM] at this
    exact this
  · rw [Option.isSome_eq_false_iff, Option.isNone_iff_eq_none] at h
    rw [h]
    exact ⟨rfl, rfl⟩
end Go.Proofs.YtdeapbihbhoefaaDoor

/- Run, once more: the slice of its outputs has room for them. -/
namespace Go.Proofs.YtdeapbihbhoefaaDoor
open Go.RowKit
open Calm (bcell Blk)
end Go.Proofs.YtdeapbihbhoefaaDoor

/- Contracts of the program as ProtectOpposite wants them. -/
namespace Go.Proofs.YtdeapbihbhoefaaDoor
open Go.RowKit
open Calm (bcell Blk)
theorem xSignal_K {n : Nat} {l : List Int} {u : Value} {W : World} (hn : n = l.length) (h5 : n ≤ 5000) (hu : KS n l u W) : Calls Tryd.prog 44 #[u] W (KP (KV (.int .i64 (sigErr l))) W) := by
  obtain ⟨A, c, rfl, hC⟩ := hu
  subst hn
  exact (pSignal_any l A c W hC h5).mono fun e W' ⟨k1, k2⟩ => ⟨_, k1, rfl, k2 ▸ Below.refl _ _⟩
section
variable {lk ht rc : Int} {ts gs xs : List Int} {M L N : Nat} {a y : Value} {W : World} (hM : M = ts.length) (hL : L = gs.length) (hN : N = xs.length) (h1 : M ≤ 1000) (h2 : L ≤ 1000) (h3 : N ≤ 5000) (hLim : Lim W) (hu : KG lk ht rc M ts L gs a W) (hv : KS N xs y W) (g1 : guardErr lk ht rc ts gs = 0) (g2 : sigErr xs = 0)
include hM hL hN h1 h2 h3 hLim hu hv g1 g2
end
section
variable {lk ht rc : Int} {ts gs xs os : List Int} {M L N : Nat} {a y z : Value} {W : World} (hM : M = ts.length) (hL : L = gs.length) (hN : N = xs.length) (hN2 : N = os.length) (h1 : M ≤ 1000) (h2 : L ≤ 1000) (h3 : N ≤ 5000) (hLim : Lim W) (hu : KG lk ht rc M ts L gs a W) (hv : KS N xs y W) (hz : KS N os z W) (g1 : guardErr lk ht rc ts gs = 0) (g2 : sigErr xs = 0) (g3 : sigErr os = 0)
include hM hL hN hN2 h1 h2 h3 hLim hu hv hz g1 g2 g3
end
end Go.Proofs.YtdeapbihbhoefaaDoor
