/- Part 22 of the texts of the claim: RQ11, RQ12, RQ13, LTx_0, LTx_1. -/
import Derived.Test.YtdeapbihbhoefaaGreatDoorMt21
import Derived.BigRegion
import Derived.Test.YtdeapbihbhoefaaGreatDoorMt20

/- The reference's reading of a text: the words in memory, the lists that grow, plain. -/
namespace Go.Proofs.YtdeapbihbhoefaaGreatDoor
open Go.RowKit
open Go.Lib
open Calm (bcell Blk)
/-- the words at an address. -/
def WCells (w : World) (g : Nat) (ws : List (List UInt8)) : Prop := g < w.heap.size ∧ ∀ i, i < ws.length → w.cell? ⟨g, i, none⟩ = some (.string ⟨(ws.getD i []).toArray⟩)
theorem WCells.below {w w' : World} {g : Nat} {ws : List (List UInt8)} (h : WCells w g ws) (hb : Below w.heap.size w w') : WCells w' g ws :=
  ⟨Nat.lt_of_lt_of_le h.1 hb.size, fun i hi => (hb.cell (p := ⟨g, i, none⟩) h.1).trans (h.2 i hi)⟩
theorem own_words {W : World} {base : Nat} {e : TypeId} {v : Value} {ws : List (List UInt8)} (h : W.ownsRow base e 1 v ws.length (words ws)) (h0 : 0 < ws.length) : ∃ g c, v = .slice (some ⟨g, 0, none⟩) ws.length c ∧ WCells W g ws := by
  rcases h.2 with ⟨h1, h2⟩ | ⟨g, cap, cur, h1, h2, h3, h4, h5, h6, h7⟩
  · exfalso
    omega
  · refine ⟨g, cap, h1, (Array.getElem?_eq_some_iff.1 h3).1, fun i hi => ?_⟩
    rw [cell_of_row W g i cur _ _ h3]
    have hj : (words ws)[i]? = some (.string ⟨(ws.getD i []).toArray⟩) := by
      unfold words
      rw [List.getElem?_map, List.getElem?_eq_getElem hi, List.getD_eq_getElem?_getD, List.getElem?_eq_getElem hi]; rfl
    rw [← h7, List.getElem?_take] at hj
    split at hj
    · simpa using hj
    · cases hj
theorem rsplit (s : ByteArray) (w : World) (hs : s.size ≤ 4096) {ws : List (List UInt8)} (hw : cutL 32 s.data.toList = ws) :
    Calls Tryz.prog 46 #[.string s, .int .u8 32] w fun r w' => ∃ g c, r = .returned (.slice (some ⟨g, 0, none⟩) ws.length c) ∧ WCells w' g ws ∧ Below w.heap.size w w' := by
  subst hw
  refine (refSplit_any s w (by omega)).mono ?_
  rintro r w' ⟨v, rfl, ho, hb⟩
  obtain ⟨g, c, rfl, hc⟩ := own_words ho (List.length_pos_iff.2 (cutL_ne _ _))
  exact ⟨g, c, rfl, hc, hb⟩
theorem rparse_res {tmps : Array Value} {g : Nat} {W : World} {a b d : Int} {A1 A2 : Option Addr} {n1 c1 n2 c2 : Nat} {E : Int} (h2 : tmps[2]?.getD undef = .pointer (some ⟨g, 0, none⟩)) (h3 : tmps[3]?.getD undef = (.int .i64 E)) (K : Blk W g #[(.int .i64 a), (.int .i64 b), .slice A1 n1 c1, (.int .i64 d), .slice A2 n2 c2]) :
    (results Tryz.f12 tmps).run Tryz.prog W = .ok (.tuple #[.agg #[(.int .i64 a), (.int .i64 b), .slice A1 n1 c1, (.int .i64 d), .slice A2 n2 c2], (.int .i64 E)]) W := by
  obtain ⟨f0, f1, f2, f3, f4, fl, ff⟩ := K.o5
  simp [results, Tryz.results12, go_sem, h2, h3, f0, f1, f2, f3, f4]
def iL (l : WL) : List Value := (l.map valS).map (Value.int .i64)
/-- the three lists in their cells, each in a row of its own. -/
structure L3 (W : World) (g : Nat) (s : SW) (v0 v1 v2 : Value) : Prop where
  blk : Blk W g #[v0, v1, v2]
  r0 : W.ownsRow (g + 1) 3 1 v0 s.a.length (iL s.a)
  r1 : W.ownsRow (g + 1) 3 1 v1 s.b.length (iL s.b)
  r2 : W.ownsRow (g + 1) 3 1 v2 s.c.length (iL s.c)
  a01 : Apt v0 v1
  a02 : Apt v0 v2
  a12 : Apt v1 v2
theorem L3.same {W : World} {g : Nat} {s t : SW} {v0 v1 v2 : Value} (h : L3 W g s v0 v1 v2) (e1 : t.a = s.a) (e2 : t.b = s.b) (e3 : t.c = s.c) : L3 W g t v0 v1 v2 :=
  ⟨h.blk, e1 ▸ h.r0, e2 ▸ h.r1, e3 ▸ h.r2, h.a01, h.a02, h.a12⟩
theorem L3.below {W W' : World} {g : Nat} {s : SW} {v0 v1 v2 : Value} (h : L3 W g s v0 v1 v2) (hb : Below W.heap.size W W') : L3 W' g s v0 v1 v2 :=
  ⟨h.blk.below hb, ownsRow_below h.r0 hb, ownsRow_below h.r1 hb, ownsRow_below h.r2 hb, h.a01, h.a02, h.a12⟩
/-- a row that an append leaves where another one does not lie. -/
theorem apt_new {u v v' : Value} {W : World} {base n : Nat} {xs : List Value} (h : Apt u v) (ho : W.ownsRow base 3 1 v n xs) {W1 : World} (hs : W.heap.size ≤ W1.heap.size) (hp : v'.ownBlock = u.ownBlock ∨ v'.ownBlock = some W1.heap.size) : Apt v' v := fun k hk hv => by
  rcases hp with q | q
  · exact h k (q ▸ hk) hv
  · have := (ho.lt k hv).2
    rw [q] at hk
    cases hk
    omega
theorem own_keep {W W' : World} {base n : Nat} {xs : List Value} {u v : Value} (ho : W.ownsRow base 3 1 v n xs) (h : Apt u v) (hg : W.grownBy W' u.ownBlock) : W'.ownsRow base 3 1 v n xs :=
  ownsRow_block ho (fun j hj => hg.block j (ho.lt j hj).2 (fun e => h j e.symm hj))
theorem far_row {W : World} {g n : Nat} {xs : List Value} {u : Value} (ho : W.ownsRow (g + 1) 3 1 u n xs) : ∀ k, u.ownBlock = some k → k ≠ g := fun k hk e => by
  have := (ho.lt k hk).1
  omega
section
variable {W W1 W2 : World} {g : Nat} {k : Nat} {a b c : WL} {v0 v1 v2 v' : Value} {x : List UInt8}
theorem L3.put0 (h : L3 W1 g ⟨k, a, b, c⟩ v0 v1 v2) (hown : W2.ownsRow (g + 1) 3 1 v' (a.length + 1) (iL a ++ [(.int .i64 (valS x))])) (hg : W1.grownBy W2 v0.ownBlock) (hp : v'.ownBlock = v0.ownBlock ∨ v'.ownBlock = some W1.heap.size) :
    L3 (W2.setCell ⟨g, 0, none⟩ v') g ⟨k, a ++ [x], b, c⟩ v' v1 v2 := by
  have hs := hg.size
  refine ⟨(grown_blk h.blk hg (far_row h.r0)).set (i := 0) (by simp) v', ?_, ?_, ?_, apt_new h.a01 h.r1 (Nat.le_refl _) hp, apt_new h.a02 h.r2 (Nat.le_refl _) hp, h.a12⟩
  · have := ownsRow_setCell_below hown (a := ⟨g, 0, none⟩) (by show g < g + 1; omega) v'
    simpa [iL] using this
  · exact ownsRow_setCell_below (own_keep h.r1 h.a01 hg) (by show g < g + 1; omega) _
  · exact ownsRow_setCell_below (own_keep h.r2 h.a02 hg) (by show g < g + 1; omega) _
theorem L3.put1 (h : L3 W1 g ⟨k, a, b, c⟩ v0 v1 v2) (hown : W2.ownsRow (g + 1) 3 1 v' (b.length + 1) (iL b ++ [(.int .i64 (valS x))])) (hg : W1.grownBy W2 v1.ownBlock) (hp : v'.ownBlock = v1.ownBlock ∨ v'.ownBlock = some W1.heap.size) :
    L3 (W2.setCell ⟨g, 1, none⟩ v') g ⟨k, a, b ++ [x], c⟩ v0 v' v2 := by
  refine ⟨(grown_blk h.blk hg (far_row h.r1)).set (i := 1) (by simp) v', ?_, ?_, ?_, (apt_new h.a01.symm h.r0 (Nat.le_refl _) hp).symm, h.a02, apt_new h.a12 h.r2 (Nat.le_refl _) hp⟩
  · exact ownsRow_setCell_below (own_keep h.r0 h.a01.symm hg) (by show g < g + 1; omega) _
  · have := ownsRow_setCell_below hown (a := ⟨g, 1, none⟩) (by show g < g + 1; omega) v'
    simpa [iL] using this
  · exact ownsRow_setCell_below (own_keep h.r2 h.a12 hg) (by show g < g + 1; omega) _
theorem L3.put2 (h : L3 W1 g ⟨k, a, b, c⟩ v0 v1 v2) (hown : W2.ownsRow (g + 1) 3 1 v' (c.length + 1) (iL c ++ [(.int .i64 (valS x))])) (hg : W1.grownBy W2 v2.ownBlock) (hp : v'.ownBlock = v2.ownBlock ∨ v'.ownBlock = some W1.heap.size) :
    L3 (W2.setCell ⟨g, 2, none⟩ v') g ⟨k, a, b, c ++ [x]⟩ v0 v1 v' := by
  refine ⟨(grown_blk h.blk hg (far_row h.r2)).set (i := 2) (by simp) v', ?_, ?_, ?_, h.a01, (apt_new h.a02.symm h.r0 (Nat.le_refl _) hp).symm, (apt_new h.a12.symm h.r1 (Nat.le_refl _) hp).symm⟩
  · exact ownsRow_setCell_below (own_keep h.r0 h.a02.symm hg) (by show g < g + 1; omega) _
  · exact ownsRow_setCell_below (own_keep h.r1 h.a12.symm hg) (by show g < g + 1; omega) _
  · have := ownsRow_setCell_below hown (a := ⟨g, 2, none⟩) (by show g < g + 1; omega) v'
    simpa [iL] using this
end
/-- no more elements than words. -/
theorem auto_len : ∀ {W : WL} {s t : SW}, autoW W s = some t → t.key ≤ s.key + W.length ∧ t.a.length ≤ s.a.length + W.length ∧ t.b.length ≤ s.b.length + W.length ∧ t.c.length ≤ s.c.length + W.length
  | [], s, t, e => by cases e; simp
  | x :: r, s, t, e => by
    have e' : (stepW s x).bind (autoW r) = some t := e
    cases hs : stepW s x with
    | none => rw [hs] at e'; cases e'
    | some u =>
      rw [hs] at e'
      obtain ⟨h0, h1, h2, h3⟩ := auto_len (s := u) e'
      unfold stepW at hs
      split at hs
      · cases hs; simp at *; omega
      · split at hs
        · cases hs
        · split at hs
          · cases hs; simp at *; omega
          · split at hs
            · cases hs; simp at *; omega
            · cases hs; simp at *; omega
/-- what is read of the first words. -/
theorem auto_snoc {W : WL} {k : Nat} {s : SW} (hk : k < W.length) (h : autoW (W.take k) ⟨0, [], [], []⟩ = some s) : autoW (W.take (k + 1)) ⟨0, [], [], []⟩ = stepW s (W.getD k []) := by
  rw [List.take_succ_eq_append_getElem hk, autoW_app, h, Option.bind_some]
  show (stepW s W[k]).bind (autoW []) = _
  rw [List.getD_eq_getElem?_getD, List.getElem?_eq_getElem hk]
  cases hq : stepW s W[k] with
  | none => simp [hq]
  | some t => simp [hq, autoW]
theorem auto_stop {W : WL} {k : Nat} {s : SW} (hk : k < W.length) (h : autoW (W.take k) ⟨0, [], [], []⟩ = some s) (hs : stepW s (W.getD k []) = none) : okW W = false := by
  refine auto_none ?_
  rw [← List.take_append_drop (k + 1) W, autoW_app, auto_snoc hk h, hs]
  rfl
end Go.Proofs.YtdeapbihbhoefaaGreatDoor

/- The reference's Parse. -/
namespace Go.Proofs.YtdeapbihbhoefaaGreatDoor
open Go.RowKit
open Go.Lib
open Calm (bcell Blk)
set_option maxRecDepth 100000 in
set_option maxHeartbeats 1000000 in
theorem rparse_long (s : ByteArray) (w : World) (h : 4096 < s.size) : Calls Tryz.prog 12 #[.string s] w (KP (K2 (KG 0 0 0 0 [] 0 []) (KV (.int .i64 27))) w) := by
  go_enter Tryz.func12, Tryz.ntmps12
  go_wp2
  exact bodyPost_ret (v := .tuple #[.agg #[(.int .i64 0), (.int .i64 0), .slice none 0 0, (.int .i64 0), .slice none 0 0], (.int .i64 27)]) (by simp [results, Tryz.results12, go_sem, *]) rfl ⟨_, rfl, ⟨_, _, rfl, zero_kg _, rfl⟩, bel⟩
theorem Blk.under {b : Nat} {w w' : World} {g : Nat} {cs : Array Value} (K : Blk w g cs) (hb : Below b w w') (hg : g < b) : Blk w' g cs := K.of_block (hb.block g hg)
set_option maxRecDepth 100000 in
set_option maxHeartbeats 8000000 in
theorem rparse_walk (s : ByteArray) (w : World) (W : List (List UInt8)) (Q : PG) (hs : s.size ≤ 4096) (hW : cutL 32 s.data.toList = W) (hWl : W.length ≤ 5000) (hWx : ∀ x ∈ W, x.length ≤ 4096)
    (HBAD : Hid (okW W = false → Q = ⟨0, 0, 0, [], [], 26⟩)) (HGOOD : Hid (okW W = true → Q = if guardErr (((hdW W).map valS).getD 0 0) (((hdW W).map valS).getD 1 0) (((hdW W).map valS).getD 2 0) ((tpW W).map valS) ((gnW W).map valS) = 0 then ⟨((hdW W).map valS).getD 0 0, ((hdW W).map valS).getD 1 0, ((hdW W).map valS).getD 2 0, (tpW W).map valS, (gnW W).map valS, 0⟩ else ⟨0, 0, 0, [], [], guardErr (((hdW W).map valS).getD 0 0) (((hdW W).map valS).getD 1 0) (((hdW W).map valS).getD 2 0) ((tpW W).map valS) ((gnW W).map valS)⟩)) :
    Calls Tryz.prog 12 #[.string s] w (KP (KPG Q) w) := by
  have HW := Lib.hid hW
  have HWL := Lib.hid hWl
  have HWX := Lib.hid hWx
  clear hW hWl hWx
  go_enter Tryz.func12, Tryz.ntmps12
  go_wp2_with (go_at_call 46; refine name_calls ?_; intro w1 e1; refine Hid.out ?_)
  unfold Hid
  have h1 : Below w.heap.size w w1 := by rw [e1]; exact bel
  have R1 := Lib.hid (show Blk w1 w.heap.size #[(.int .i64 0), (.int .i64 0), .slice none 0 0, (.int .i64 0), .slice none 0 0] by rw [e1]; (repeat (first | ((with_reducible refine Blk.at_ ?_); focus (first | rfl | (simp; done) | (simp; omega))) | (with_reducible refine Blk.alloc ?_ _) | (with_reducible refine Blk.below ?_ (by with_reducible assumption)) | (with_reducible refine Blk.drew ?_))))
  clear e1
  refine (rsplit s w1 hs HW.out).mono ?_
  rintro r w2 ⟨b, c, rfl, hK, h2⟩
  have KW := Lib.hid hK
  have hbl : b < w2.heap.size := hK.1
  have R2 := Lib.hid (R1.out.below h2)
  have HB2 := Lib.hid (h1.trans (h2.mono h1.size))
  have hR : w.heap.size < w2.heap.size := R2.out.lt
  obtain ⟨n, hn⟩ : ∃ n, n = W.length := ⟨_, rfl⟩
  rw [← hn]
  have HN := Lib.hid hn
  have hn5 : n ≤ 5000 := by rw [hn]; exact HWL.out
  clear hn hK h1 h2 R1
  go_wp2
  refine name_world ?_
  intro w3 e3
  have h3 : Below w2.heap.size w2 w3 := by rw [e3]; exact bel
  have KM := Lib.hid (show Blk w3 w2.heap.size #[.string ⟨#[103, 117, 97, 114, 100]⟩, .string ⟨#[116, 97, 112, 115]⟩, .string ⟨#[103, 97, 105, 110, 115]⟩] by rw [e3]; (repeat (first | ((with_reducible refine Blk.at_ ?_); focus (first | rfl | (simp; done) | (simp; omega))) | (with_reducible refine Blk.alloc ?_ _) | (with_reducible refine Blk.below ?_ (by with_reducible assumption)) | (with_reducible refine Blk.drew ?_))))
  have KL0 := Lib.hid (show Blk w3 (w2.heap.size + 1) #[.slice none 0 0, .slice none 0 0, .slice none 0 0] by rw [e3]; (repeat (first | ((with_reducible refine Blk.at_ ?_); focus (first | rfl | (simp; done) | (simp; omega))) | (with_reducible refine Blk.alloc ?_ _) | (with_reducible refine Blk.below ?_ (by with_reducible assumption)) | (with_reducible refine Blk.drew ?_))))
  obtain ⟨gm, hgm⟩ : ∃ gm, gm = w2.heap.size := ⟨_, rfl⟩
  obtain ⟨gl, hgl⟩ : ∃ gl, gl = w2.heap.size + 1 := ⟨_, rfl⟩
  have hg0 : w.heap.size < gl := by omega
  have hg1 : b < gl := by omega
  have hg2 : gm < gl := by omega
  have hg3 : gl < w3.heap.size := by rw [hgl]; exact KL0.out.lt
  rw [← hgl] at KL0 ⊢
  rw [← hgm] at KM ⊢
  have KW3 := Lib.hid (KW.out.below h3)
  have R3 := Lib.hid (R2.out.below h3)
  have HB3 := Lib.hid (HB2.out.trans (h3.mono HB2.out.size))
  clear e3 h3 hgm hgl KW R2 HB2
  go_loopw [7, 8] (fun z i wr => ∃ (k : Nat) (q : SW) (v0 v1 v2 : Value), k ≤ n ∧ i = (.int .i64 ((k : Int))) ∧ z = (.int .i64 ((q.key : Int))) ∧ autoW (W.take k) ⟨0, [], [], []⟩ = some q ∧ L3 wr gl q v0 v1 v2 ∧ Below gl w3 wr) (fun _ i _ => n - (RowKit.intOf i).toNat)
  case atStart => exact ⟨0, ⟨0, [], [], []⟩, _, _, _, Nat.zero_le _, rfl, rfl, rfl, ⟨KL0.out, World.ownsRow_nil _ _ _ _, World.ownsRow_nil _ _ _ _, World.ownsRow_nil _ _ _ _, (fun k hk => by cases hk), (fun k hk => by cases hk), (fun k hk => by cases hk)⟩, Below.refl _ _⟩
  case round =>
    obtain ⟨k, ⟨key, A, B, C⟩, v0, v1, v2, hk, rfl, rfl, ha, hL, hB⟩ := hrel
    obtain ⟨l0, l1, l2, l3⟩ := auto_len ha
    have hky : key ≤ 3 := (auto_ok ok_start ha).1.k
    have htk : (W.take k).length ≤ 5000 := by rw [List.length_take]; omega
    simp only [List.length_nil, Nat.zero_add] at l0 l1 l2 l3
    have hA5 : A.length ≤ 5000 := by omega
    have hB5 : B.length ≤ 5000 := by omega
    have hC5 : C.length ≤ 5000 := by omega
    obtain ⟨C0, d0, rfl⟩ := own_slice hL.r0
    obtain ⟨C1, d1, rfl⟩ := own_slice hL.r1
    obtain ⟨C2, d2, rfl⟩ := own_slice hL.r2
    have HA := Lib.hid ha
    have HL := Lib.hid hL
    have HB := Lib.hid hB
    have hzr := hB.size
    obtain ⟨f0, f1, f2, fl, -⟩ := hL.blk.o3
    have RR := Lib.hid (Blk.under R3.out hB hg0)
    have HBR : Hid (Below w.heap.size w wr) := Lib.hid (HB3.out.trans (hB.mono (Nat.le_of_lt hg0)))
    have hrl : w.heap.size < wr.heap.size := RR.out.lt
    clear ha hL hB l0 l1 l2 l3 htk
    by_cases hlt : k < n
    · obtain ⟨x, hx⟩ : ∃ x, x = W.getD k [] := ⟨_, rfl⟩
      have hwc : wr.cell? ⟨b, k, none⟩ = some (.string ⟨x.toArray⟩) := by
        rw [hx]
        exact (HB.out.cell (p := ⟨b, k, none⟩) hg1).trans (KW3.out.2 k (by rw [← HN.out]; exact hlt))
      have hkW : k < W.length := by rw [← HN.out]; exact hlt
      have hxl : x.length ≤ 4096 := HWX.out x (by rw [hx, List.getD_eq_getElem?_getD, List.getElem?_eq_getElem hkW]; exact List.getElem_mem _)
      have HX := Lib.hid hx
      have HST : Hid (autoW (W.take (k + 1)) ⟨0, [], [], []⟩ = stepW ⟨key, A, B, C⟩ x) := Lib.hid (by rw [hx]; exact auto_snoc hkW HA.out)
      have HNO : Hid (stepW ⟨key, A, B, C⟩ x = none → okW W = false) := Lib.hid (fun e => auto_stop hkW HA.out (by rw [← hx]; exact e))
      clear hx
      have hbr : b < wr.heap.size := by omega
      by_cases hm : key < 3 ∧ x = markW key
      · obtain ⟨hk3, hxm⟩ := hm
        have HT : Hid (autoW (W.take (k + 1)) ⟨0, [], [], []⟩ = some ⟨key + 1, A, B, C⟩) := Lib.hid (by rw [HST.out]; unfold stepW; rw [if_pos ⟨hk3, hxm⟩])
        obtain ⟨m, hmm⟩ : ∃ m, m = markW key := ⟨_, rfl⟩
        have hmc : wr.cell? ⟨gm, key, none⟩ = some (.string ⟨m.toArray⟩) := by
          refine (HB.out.cell (p := ⟨gm, key, none⟩) hg2).trans ?_
          rw [KM.out.c key, hmm]
          match key, hk3 with
          | 0, _ => rfl
          | 1, _ => rfl
          | 2, _ => rfl
        have he : (x == m) = true := by rw [hmm, hxm]; exact beq_self_eq_true _
        have hk3i : (key : Int) < 3 := by omega
        clear hxm hmm HST HNO f0 f1 f2 fl
        go_wp2
        go_region
        go_wp2
        go_roundw
        case rel => exact ⟨k + 1, ⟨key + 1, A, B, C⟩, _, _, _, by omega, by go_num, by go_num, HT.out, (HL.out.same (t := ⟨key + 1, A, B, C⟩) rfl rfl rfl).below ((Below.refl _ _).drew), HB.out.drew⟩
        case measure => simp [RowKit.intOf]; omega
      · rcases (by omega : key = 0 ∨ key = 1 ∨ key = 2 ∨ key = 3) with rfl | rfl | rfl | rfl
        · cases hS : isS x
          · have HSG : Hid (∀ W : World, Calls Tryz.prog 47 #[.string ⟨x.toArray⟩] W fun r w' => ∃ v, r = .returned (.tuple #[(.int .i64 v), .bool false]) ∧ (false = true → v = valS x) ∧ W = w') := Lib.hid (fun W => by have q := signed_any ⟨x.toArray⟩ W (by show x.toArray.size ≤ _; simp; omega); rw [show (⟨x.toArray⟩ : ByteArray).data.toList = x from rfl, hS] at q; exact q)
            have hxm : x ≠ [103, 117, 97, 114, 100] := fun e => hm ⟨by omega, by rw [e]; rfl⟩
            have he : (x == [103, 117, 97, 114, 100]) = false := beq_eq_false_iff_ne.2 hxm
            have hmc : wr.cell? ⟨gm, 0, none⟩ = some (.string ⟨#[103, 117, 97, 114, 100]⟩) := (HB.out.cell (p := ⟨gm, 0, none⟩) hg2).trans (KM.out.c 0)
            have HQ := Lib.hid (HBAD.out (HNO.out (by unfold stepW; rw [if_neg hm]; simp [hS])))
            have HXM := Lib.hid hxm
            clear hxm
            clear hS hm f0 f1 f2 fl
            go_wp2
            go_region
            go_wp2_with (go_at_call 47; refine name_calls ?_; intro w4 e4; refine Hid.out ?_)
            unfold Hid
            have hd : Below wr.heap.size wr w4 := by rw [e4]; exact (Below.refl _ _).drew
            have HL4 := Lib.hid (HL.out.below hd)
            have HB4 : Hid (Below gl w3 w4) := Lib.hid (HB.out.trans (hd.mono (by omega)))
            have RR4 := Lib.hid (RR.out.below hd)
            have HBR4 := Lib.hid (HBR.out.trans (hd.mono (by omega)))
            have hz4 := hd.size
            clear hd e4 hwc hmc he
            refine (HSG.out _).mono ?_
            rintro r w5 ⟨v, rfl, hv, rfl⟩
            clear hv
            obtain ⟨q0, q1, q2, q3, q4, ql, qf⟩ := RR4.out.o5
            go_wp2
            refine name_post ?_
            intro wz ez
            have KF : Blk wz w.heap.size #[(.int .i64 0), (.int .i64 0), .slice none 0 0, (.int .i64 0), .slice none 0 0] := ez.symm ▸ zeros_gblk RR4.out
            have HF : Below w.heap.size w wz := ez.symm ▸ zeros_gbelow HBR4.out
            refine bodyPost_ret (rparse_res rfl rfl KF) rfl ⟨_, rfl, ?_, HF⟩
            rw [HQ.out]
            exact ⟨_, _, rfl, zero_kg _, rfl⟩
          · have HSG : Hid (∀ W : World, Calls Tryz.prog 47 #[.string ⟨x.toArray⟩] W fun r w' => ∃ v, r = .returned (.tuple #[(.int .i64 v), .bool true]) ∧ (true = true → v = valS x) ∧ W = w') := Lib.hid (fun W => by have q := signed_any ⟨x.toArray⟩ W (by show x.toArray.size ≤ _; simp; omega); rw [show (⟨x.toArray⟩ : ByteArray).data.toList = x from rfl, hS] at q; exact q)
            have hxm : x ≠ [103, 117, 97, 114, 100] := fun e => hm ⟨by omega, by rw [e]; rfl⟩
            have he : (x == [103, 117, 97, 114, 100]) = false := beq_eq_false_iff_ne.2 hxm
            have hmc : wr.cell? ⟨gm, 0, none⟩ = some (.string ⟨#[103, 117, 97, 114, 100]⟩) := (HB.out.cell (p := ⟨gm, 0, none⟩) hg2).trans (KM.out.c 0)
            have HQ := Lib.hid (HBAD.out (HNO.out (by unfold stepW; rw [if_neg hm]; simp [hS])))
            have HXM := Lib.hid hxm
            clear hxm
            clear hS hm f0 f1 f2 fl
            go_wp2
            go_region
            go_wp2_with (go_at_call 47; refine name_calls ?_; intro w4 e4; refine Hid.out ?_)
            unfold Hid
            have hd : Below wr.heap.size wr w4 := by rw [e4]; exact (Below.refl _ _).drew
            have HL4 := Lib.hid (HL.out.below hd)
            have HB4 : Hid (Below gl w3 w4) := Lib.hid (HB.out.trans (hd.mono (by omega)))
            have RR4 := Lib.hid (RR.out.below hd)
            have HBR4 := Lib.hid (HBR.out.trans (hd.mono (by omega)))
            have hz4 := hd.size
            clear hd e4 hwc hmc he
            refine (HSG.out _).mono ?_
            rintro r w5 ⟨v, rfl, hv, rfl⟩
            clear hv
            obtain ⟨q0, q1, q2, q3, q4, ql, qf⟩ := RR4.out.o5
            go_wp2
            refine name_post ?_
            intro wz ez
            have KF : Blk wz w.heap.size #[(.int .i64 0), (.int .i64 0), .slice none 0 0, (.int .i64 0), .slice none 0 0] := ez.symm ▸ zeros_gblk RR4.out
            have HF : Below w.heap.size w wz := ez.symm ▸ zeros_gbelow HBR4.out
            refine bodyPost_ret (rparse_res rfl rfl KF) rfl ⟨_, rfl, ?_, HF⟩
            rw [HQ.out]
            exact ⟨_, _, rfl, zero_kg _, rfl⟩
        · cases hS : isS x
          · have HSG : Hid (∀ W : World, Calls Tryz.prog 47 #[.string ⟨x.toArray⟩] W fun r w' => ∃ v, r = .returned (.tuple #[(.int .i64 v), .bool false]) ∧ (false = true → v = valS x) ∧ W = w') := Lib.hid (fun W => by have q := signed_any ⟨x.toArray⟩ W (by show x.toArray.size ≤ _; simp; omega); rw [show (⟨x.toArray⟩ : ByteArray).data.toList = x from rfl, hS] at q; exact q)
            have hxm : x ≠ [116, 97, 112, 115] := fun e => hm ⟨by omega, by rw [e]; rfl⟩
            have he : (x == [116, 97, 112, 115]) = false := beq_eq_false_iff_ne.2 hxm
            have hmc : wr.cell? ⟨gm, 1, none⟩ = some (.string ⟨#[116, 97, 112, 115]⟩) := (HB.out.cell (p := ⟨gm, 1, none⟩) hg2).trans (KM.out.c 1)
            have HQ := Lib.hid (HBAD.out (HNO.out (by unfold stepW; rw [if_neg hm]; simp [hS])))
            have HXM := Lib.hid hxm
            clear hxm
            clear hS hm f0 f1 f2 fl
            go_wp2
            go_region
            go_wp2_with (go_at_call 47; refine name_calls ?_; intro w4 e4; refine Hid.out ?_)
            unfold Hid
            have hd : Below wr.heap.size wr w4 := by rw [e4]; exact (Below.refl _ _).drew
            have HL4 := Lib.hid (HL.out.below hd)
            have HB4 : Hid (Below gl w3 w4) := Lib.hid (HB.out.trans (hd.mono (by omega)))
            have RR4 := Lib.hid (RR.out.below hd)
            have HBR4 := Lib.hid (HBR.out.trans (hd.mono (by omega)))
            have hz4 := hd.size
            clear hd e4 hwc hmc he
            refine (HSG.out _).mono ?_
            rintro r w5 ⟨v, rfl, hv, rfl⟩
            clear hv
            obtain ⟨q0, q1, q2, q3, q4, ql, qf⟩ := RR4.out.o5
            go_wp2
            refine name_post ?_
            intro wz ez
            have KF : Blk wz w.heap.size #[(.int .i64 0), (.int .i64 0), .slice none 0 0, (.int .i64 0), .slice none 0 0] := ez.symm ▸ zeros_gblk RR4.out
            have HF : Below w.heap.size w wz := ez.symm ▸ zeros_gbelow HBR4.out
            refine bodyPost_ret (rparse_res rfl rfl KF) rfl ⟨_, rfl, ?_, HF⟩
            rw [HQ.out]
            exact ⟨_, _, rfl, zero_kg _, rfl⟩
          · have HSG : Hid (∀ W : World, Calls Tryz.prog 47 #[.string ⟨x.toArray⟩] W fun r w' => ∃ v, r = .returned (.tuple #[(.int .i64 v), .bool true]) ∧ (true = true → v = valS x) ∧ W = w') := Lib.hid (fun W => by have q := signed_any ⟨x.toArray⟩ W (by show x.toArray.size ≤ _; simp; omega); rw [show (⟨x.toArray⟩ : ByteArray).data.toList = x from rfl, hS] at q; exact q)
            have hxm : x ≠ [116, 97, 112, 115] := fun e => hm ⟨by omega, by rw [e]; rfl⟩
            have he : (x == [116, 97, 112, 115]) = false := beq_eq_false_iff_ne.2 hxm
            have hmc : wr.cell? ⟨gm, 1, none⟩ = some (.string ⟨#[116, 97, 112, 115]⟩) := (HB.out.cell (p := ⟨gm, 1, none⟩) hg2).trans (KM.out.c 1)
            have HT : Hid (autoW (W.take (k + 1)) ⟨0, [], [], []⟩ = some ⟨1, A ++ [x], B, C⟩) := Lib.hid (by rw [HST.out]; unfold stepW; rw [if_neg hm]; simp [hS])
            have HXM := Lib.hid hxm
            clear hxm
            clear hS hm f0 f1 f2 fl
            go_wp2
            go_region
            go_wp2_with (go_at_call 47; refine name_calls ?_; intro w4 e4; refine Hid.out ?_)
            unfold Hid
            have hd : Below wr.heap.size wr w4 := by rw [e4]; exact (Below.refl _ _).drew
            have HL4 := Lib.hid (HL.out.below hd)
            have HB4 : Hid (Below gl w3 w4) := Lib.hid (HB.out.trans (hd.mono (by omega)))
            have RR4 := Lib.hid (RR.out.below hd)
            have HBR4 := Lib.hid (HBR.out.trans (hd.mono (by omega)))
            have hz4 := hd.size
            clear hd e4 hwc hmc he
            refine (HSG.out _).mono ?_
            rintro r w5 ⟨v, rfl, hv, rfl⟩
            obtain rfl := hv (by first | trivial | rfl)
            clear hv
            obtain ⟨f0, f1, f2, fl, -⟩ := HL4.out.blk.o3
            go_wp2_with (at_builtin; refine name_list ?_; intro w6 e6; refine Hid.out ?_)
            unfold Hid
            have hd : Below w4.heap.size w4 w6 := by rw [e6]; exact bel
            have KR6 := Lib.hid (show Blk w6 w4.heap.size #[(.int .i64 (valS x))] by rw [e6]; exact Calm.Blk.new _ _ _)
            have HL6 := Lib.hid (HL4.out.below hd)
            have HB6 : Hid (Below gl w3 w6) := Lib.hid (HB4.out.trans (hd.mono (by omega)))
            have hz6 := hd.size
            clear hd e6 f0 f1 f2 fl
            refine wpList_app1 rfl _ _ rfl (gl + 1) _ A.length _ rfl HL6.out.r0 _ 1 (valS x) rfl (KR6.out.cell 0 _ rfl) (by omega) (by omega) ?_
            intro v' w7 hown hgrow hpl
            obtain ⟨C9, d9, rfl⟩ := own_slice hown
            have bn := grown_blk HL6.out.blk hgrow (far_row HL6.out.r0)
            have HL7 := Lib.hid (HL6.out.put0 hown hgrow hpl)
            have HB7 : Hid (Below gl w3 w7) := Lib.hid (HB6.out.grown hgrow (by omega) (fun j hj => by have := (HL6.out.r0.lt j hj).1; omega))
            have hz7 : gl < w7.heap.size := bn.lt
            obtain ⟨g0, g1, g2, gll, gf⟩ := bn.o3
            clear hown hgrow hpl bn
            go_wp2
            go_roundw
            case rel => exact ⟨k + 1, ⟨1, A ++ [x], B, C⟩, _, _, _, by omega, by go_num, by go_num, HT.out, HL7.out, HB7.out.setCell (p := ⟨gl, 0, none⟩) (Nat.le_refl _) _⟩
            case measure => simp [RowKit.intOf]; omega
        · cases hS : isS x
          · have HSG : Hid (∀ W : World, Calls Tryz.prog 47 #[.string ⟨x.toArray⟩] W fun r w' => ∃ v, r = .returned (.tuple #[(.int .i64 v), .bool false]) ∧ (false = true → v = valS x) ∧ W = w') := Lib.hid (fun W => by have q := signed_any ⟨x.toArray⟩ W (by show x.toArray.size ≤ _; simp; omega); rw [show (⟨x.toArray⟩ : ByteArray).data.toList = x from rfl, hS] at q; exact q)
            have hxm : x ≠ [103, 97, 105, 110, 115] := fun e => hm ⟨by omega, by rw [e]; rfl⟩
            have he : (x == [103, 97, 105, 110, 115]) = false := beq_eq_false_iff_ne.2 hxm
            have hmc : wr.cell? ⟨gm, 2, none⟩ = some (.string ⟨#[103, 97, 105, 110, 115]⟩) := (HB.out.cell (p := ⟨gm, 2, none⟩) hg2).trans (KM.out.c 2)
            have HQ := Lib.hid (HBAD.out (HNO.out (by unfold stepW; rw [if_neg hm]; simp [hS])))
            have HXM := Lib.hid hxm
            clear hxm
            clear hS hm f0 f1 f2 fl
            go_wp2
            go_region
            go_wp2_with (go_at_call 47; refine name_calls ?_; intro w4 e4; refine Hid.out ?_)
            unfold Hid
            have hd : Below wr.heap.size wr w4 := by rw [e4]; exact (Below.refl _ _).drew
            have HL4 := Lib.hid (HL.out.below hd)
            have HB4 : Hid (Below gl w3 w4) := Lib.hid (HB.out.trans (hd.mono (by omega)))
            have RR4 := Lib.hid (RR.out.below hd)
            have HBR4 := Lib.hid (HBR.out.trans (hd.mono (by omega)))
            have hz4 := hd.size
            clear hd e4 hwc hmc he
            refine (HSG.out _).mono ?_
            rintro r w5 ⟨v, rfl, hv, rfl⟩
            clear hv
            obtain ⟨q0, q1, q2, q3, q4, ql, qf⟩ := RR4.out.o5
            go_wp2
            refine name_post ?_
            intro wz ez
            have KF : Blk wz w.heap.size #[(.int .i64 0), (.int .i64 0), .slice none 0 0, (.int .i64 0), .slice none 0 0] := ez.symm ▸ zeros_gblk RR4.out
            have HF : Below w.heap.size w wz := ez.symm ▸ zeros_gbelow HBR4.out
            refine bodyPost_ret (rparse_res rfl rfl KF) rfl ⟨_, rfl, ?_, HF⟩
            rw [HQ.out]
            exact ⟨_, _, rfl, zero_kg _, rfl⟩
          · have HSG : Hid (∀ W : World, Calls Tryz.prog 47 #[.string ⟨x.toArray⟩] W fun r w' => ∃ v, r = .returned (.tuple #[(.int .i64 v), .bool true]) ∧ (true = true → v = valS x) ∧ W = w') := Lib.hid (fun W => by have q := signed_any ⟨x.toArray⟩ W (by show x.toArray.size ≤ _; simp; omega); rw [show (⟨x.toArray⟩ : ByteArray).data.toList = x from rfl, hS] at q; exact q)
            have hxm : x ≠ [103, 97, 105, 110, 115] := fun e => hm ⟨by omega, by rw [e]; rfl⟩
            have he : (x == [103, 97, 105, 110, 115]) = false := beq_eq_false_iff_ne.2 hxm
            have hmc : wr.cell? ⟨gm, 2, none⟩ = some (.string ⟨#[103, 97, 105, 110, 115]⟩) := (HB.out.cell (p := ⟨gm, 2, none⟩) hg2).trans (KM.out.c 2)
            have HT : Hid (autoW (W.take (k + 1)) ⟨0, [], [], []⟩ = some ⟨2, A, B ++ [x], C⟩) := Lib.hid (by rw [HST.out]; unfold stepW; rw [if_neg hm]; simp [hS])
            have HXM := Lib.hid hxm
            clear hxm
            clear hS hm f0 f1 f2 fl
            go_wp2
            go_region
            go_wp2_with (go_at_call 47; refine name_calls ?_; intro w4 e4; refine Hid.out ?_)
            unfold Hid
            have hd : Below wr.heap.size wr w4 := by rw [e4]; exact (Below.refl _ _).drew
            have HL4 := Lib.hid (HL.out.below hd)
            have HB4 : Hid (Below gl w3 w4) := Lib.hid (HB.out.trans (hd.mono (by omega)))
            have RR4 := Lib.hid (RR.out.below hd)
            have HBR4 := Lib.hid (HBR.out.trans (hd.mono (by omega)))
            have hz4 := hd.size
            clear hd e4 hwc hmc he
            refine (HSG.out _).mono ?_
            rintro r w5 ⟨v, rfl, hv, rfl⟩
            obtain rfl := hv (by first | trivial | rfl)
            clear hv
            obtain ⟨f0, f1, f2, fl, -⟩ := HL4.out.blk.o3
            go_wp2_with (at_builtin; refine name_list ?_; intro w6 e6; refine Hid.out ?_)
            unfold Hid
            have hd : Below w4.heap.size w4 w6 := by rw [e6]; exact bel
            have KR6 := Lib.hid (show Blk w6 w4.heap.size #[(.int .i64 (valS x))] by rw [e6]; exact Calm.Blk.new _ _ _)
            have HL6 := Lib.hid (HL4.out.below hd)
            have HB6 : Hid (Below gl w3 w6) := Lib.hid (HB4.out.trans (hd.mono (by omega)))
            have hz6 := hd.size
            clear hd e6 f0 f1 f2 fl
            refine wpList_app1 rfl _ _ rfl (gl + 1) _ B.length _ rfl HL6.out.r1 _ 1 (valS x) rfl (KR6.out.cell 0 _ rfl) (by omega) (by omega) ?_
            intro v' w7 hown hgrow hpl
            obtain ⟨C9, d9, rfl⟩ := own_slice hown
            have bn := grown_blk HL6.out.blk hgrow (far_row HL6.out.r1)
            have HL7 := Lib.hid (HL6.out.put1 hown hgrow hpl)
            have HB7 : Hid (Below gl w3 w7) := Lib.hid (HB6.out.grown hgrow (by omega) (fun j hj => by have := (HL6.out.r1.lt j hj).1; omega))
            have hz7 : gl < w7.heap.size := bn.lt
            obtain ⟨g0, g1, g2, gll, gf⟩ := bn.o3
            clear hown hgrow hpl bn
            go_wp2
            go_roundw
            case rel => exact ⟨k + 1, ⟨2, A, B ++ [x], C⟩, _, _, _, by omega, by go_num, by go_num, HT.out, HL7.out, HB7.out.setCell (p := ⟨gl, 1, none⟩) (Nat.le_refl _) _⟩
            case measure => simp [RowKit.intOf]; omega
        · cases hS : isS x
          · have HSG : Hid (∀ W : World, Calls Tryz.prog 47 #[.string ⟨x.toArray⟩] W fun r w' => ∃ v, r = .returned (.tuple #[(.int .i64 v), .bool false]) ∧ (false = true → v = valS x) ∧ W = w') := Lib.hid (fun W => by have q := signed_any ⟨x.toArray⟩ W (by show x.toArray.size ≤ _; simp; omega); rw [show (⟨x.toArray⟩ : ByteArray).data.toList = x from rfl, hS] at q; exact q)
            have HQ := Lib.hid (HBAD.out (HNO.out (by unfold stepW; rw [if_neg hm]; simp [hS])))
            clear hS hm f0 f1 f2 fl
            go_wp2
            go_region
            go_wp2_with (go_at_call 47; refine name_calls ?_; intro w4 e4; refine Hid.out ?_)
            unfold Hid
            have hd : Below wr.heap.size wr w4 := by rw [e4]; exact (Below.refl _ _).drew
            have HL4 := Lib.hid (HL.out.below hd)
            have HB4 : Hid (Below gl w3 w4) := Lib.hid (HB.out.trans (hd.mono (by omega)))
            have RR4 := Lib.hid (RR.out.below hd)
            have HBR4 := Lib.hid (HBR.out.trans (hd.mono (by omega)))
            have hz4 := hd.size
            clear hd e4 hwc
            refine (HSG.out _).mono ?_
            rintro r w5 ⟨v, rfl, hv, rfl⟩
            clear hv
            obtain ⟨q0, q1, q2, q3, q4, ql, qf⟩ := RR4.out.o5
            go_wp2
            refine name_post ?_
            intro wz ez
            have KF : Blk wz w.heap.size #[(.int .i64 0), (.int .i64 0), .slice none 0 0, (.int .i64 0), .slice none 0 0] := ez.symm ▸ zeros_gblk RR4.out
            have HF : Below w.heap.size w wz := ez.symm ▸ zeros_gbelow HBR4.out
            refine bodyPost_ret (rparse_res rfl rfl KF) rfl ⟨_, rfl, ?_, HF⟩
            rw [HQ.out]
            exact ⟨_, _, rfl, zero_kg _, rfl⟩
          · have HSG : Hid (∀ W : World, Calls Tryz.prog 47 #[.string ⟨x.toArray⟩] W fun r w' => ∃ v, r = .returned (.tuple #[(.int .i64 v), .bool true]) ∧ (true = true → v = valS x) ∧ W = w') := Lib.hid (fun W => by have q := signed_any ⟨x.toArray⟩ W (by show x.toArray.size ≤ _; simp; omega); rw [show (⟨x.toArray⟩ : ByteArray).data.toList = x from rfl, hS] at q; exact q)
            have HT : Hid (autoW (W.take (k + 1)) ⟨0, [], [], []⟩ = some ⟨3, A, B, C ++ [x]⟩) := Lib.hid (by rw [HST.out]; unfold stepW; rw [if_neg hm]; simp [hS])
            clear hS hm f0 f1 f2 fl
            go_wp2
            go_region
            go_wp2_with (go_at_call 47; refine name_calls ?_; intro w4 e4; refine Hid.out ?_)
            unfold Hid
            have hd : Below wr.heap.size wr w4 := by rw [e4]; exact (Below.refl _ _).drew
            have HL4 := Lib.hid (HL.out.below hd)
            have HB4 : Hid (Below gl w3 w4) := Lib.hid (HB.out.trans (hd.mono (by omega)))
            have RR4 := Lib.hid (RR.out.below hd)
            have HBR4 := Lib.hid (HBR.out.trans (hd.mono (by omega)))
            have hz4 := hd.size
            clear hd e4 hwc
            refine (HSG.out _).mono ?_
            rintro r w5 ⟨v, rfl, hv, rfl⟩
            obtain rfl := hv (by first | trivial | rfl)
            clear hv
            obtain ⟨f0, f1, f2, fl, -⟩ := HL4.out.blk.o3
            go_wp2_with (at_builtin; refine name_list ?_; intro w6 e6; refine Hid.out ?_)
            unfold Hid
            have hd : Below w4.heap.size w4 w6 := by rw [e6]; exact bel
            have KR6 := Lib.hid (show Blk w6 w4.heap.size #[(.int .i64 (valS x))] by rw [e6]; exact Calm.Blk.new _ _ _)
            have HL6 := Lib.hid (HL4.out.below hd)
            have HB6 : Hid (Below gl w3 w6) := Lib.hid (HB4.out.trans (hd.mono (by omega)))
            have hz6 := hd.size
            clear hd e6 f0 f1 f2 fl
            refine wpList_app1 rfl _ _ rfl (gl + 1) _ C.length _ rfl HL6.out.r2 _ 1 (valS x) rfl (KR6.out.cell 0 _ rfl) (by omega) (by omega) ?_
            intro v' w7 hown hgrow hpl
            obtain ⟨C9, d9, rfl⟩ := own_slice hown
            have bn := grown_blk HL6.out.blk hgrow (far_row HL6.out.r2)
            have HL7 := Lib.hid (HL6.out.put2 hown hgrow hpl)
            have HB7 : Hid (Below gl w3 w7) := Lib.hid (HB6.out.grown hgrow (by omega) (fun j hj => by have := (HL6.out.r2.lt j hj).1; omega))
            have hz7 : gl < w7.heap.size := bn.lt
            obtain ⟨g0, g1, g2, gll, gf⟩ := bn.o3
            clear hown hgrow hpl bn
            go_wp2
            go_roundw
            case rel => exact ⟨k + 1, ⟨3, A, B, C ++ [x]⟩, _, _, _, by omega, by go_num, by go_num, HT.out, HL7.out, HB7.out.setCell (p := ⟨gl, 2, none⟩) (Nat.le_refl _) _⟩
            case measure => simp [RowKit.intOf]; omega
    · obtain rfl : k = n := by omega
      clear hlt
      have HE : Hid (autoW W ⟨0, [], [], []⟩ = some ⟨key, A, B, C⟩) := Lib.hid (by have := HA.out; rwa [HN.out, List.take_length] at this)
      by_cases hk3 : key < 3
      · have hk3i : (key : Int) < 3 := by omega
        have HQ := Lib.hid (HBAD.out (auto_short HE.out (.inl hk3)))
        obtain ⟨q0, q1, q2, q3, q4, ql, qf⟩ := RR.out.o5
        go_wp2
        refine name_post ?_
        intro wz ez
        have KF : Blk wz w.heap.size #[(.int .i64 0), (.int .i64 0), .slice none 0 0, (.int .i64 0), .slice none 0 0] := ez.symm ▸ zeros_gblk RR.out
        have HF : Below w.heap.size w wz := ez.symm ▸ zeros_gbelow HBR.out
        refine bodyPost_ret (rparse_res rfl rfl KF) rfl ⟨_, rfl, ?_, HF⟩
        rw [HQ.out]
        exact ⟨_, _, rfl, zero_kg _, rfl⟩
      · obtain rfl : key = 3 := by omega
        by_cases hA3 : A.length = 3
        rotate_left
        · have hA3i : ((A.length : Int) != 3) = true := by simp; omega
          have hA3j : ¬ (A.length : Int) = 3 := by omega
          have HQ := Lib.hid (HBAD.out (auto_short HE.out (.inr hA3)))
          obtain ⟨q0, q1, q2, q3, q4, ql, qf⟩ := RR.out.o5
          go_wp2
          refine name_post ?_
          intro wz ez
          have KF : Blk wz w.heap.size #[(.int .i64 0), (.int .i64 0), .slice none 0 0, (.int .i64 0), .slice none 0 0] := ez.symm ▸ zeros_gblk RR.out
          have HF : Below w.heap.size w wz := ez.symm ▸ zeros_gbelow HBR.out
          refine bodyPost_ret (rparse_res rfl rfl KF) rfl ⟨_, rfl, ?_, HF⟩
          rw [HQ.out]
          exact ⟨_, _, rfl, zero_kg _, rfl⟩
        · obtain ⟨u1, u2, u3, u4⟩ := auto_full HE.out (by simp only; omega)
          have HOK : Hid (Q = if guardErr ((A.map valS).getD 0 0) ((A.map valS).getD 1 0) ((A.map valS).getD 2 0) (B.map valS) (C.map valS) = 0 then ⟨(A.map valS).getD 0 0, (A.map valS).getD 1 0, (A.map valS).getD 2 0, B.map valS, C.map valS, 0⟩ else ⟨0, 0, 0, [], [], guardErr ((A.map valS).getD 0 0) ((A.map valS).getD 1 0) ((A.map valS).getD 2 0) (B.map valS) (C.map valS)⟩) := Lib.hid (by have q := HGOOD.out u1; rwa [u2, u3, u4] at q)
          obtain ⟨_, _, ee, hge0, hcA⟩ := own_ints (zs := A.map valS) HL.out.r0 (by simp)
          cases ee
          obtain ⟨bh, oh, hAh, hhl, hhc⟩ := hcA (by simp; omega)
          subst hAh
          have hx0 := hhc 0 (by simp; omega)
          have hx1 := hhc 1 (by simp; omega)
          have hx2 := hhc 2 (by simp; omega)
          rw [Nat.add_zero] at hx0
          obtain ⟨x0, hv0⟩ : ∃ x0, x0 = (A.map valS).getD 0 0 := ⟨_, rfl⟩
          rw [← hv0] at hx0 HOK
          obtain ⟨x1, hv1⟩ : ∃ x1, x1 = (A.map valS).getD 1 0 := ⟨_, rfl⟩
          rw [← hv1] at hx1 HOK
          obtain ⟨x2, hv2⟩ : ∃ x2, x2 = (A.map valS).getD 2 0 := ⟨_, rfl⟩
          rw [← hv2] at hx2 HOK
          have hA3i : (A.length : Int) = 3 := by omega
          have hA3j : ((A.length : Int) != 3) = false := by simp; omega
          clear hv0 hv1 hv2 hhc hcA u1 u2 u3 u4 hk3
          obtain ⟨nA, hnA⟩ : ∃ nA, nA = A.length := ⟨_, rfl⟩
          rw [← hnA] at f0 hA3i hA3j hA3
          subst hA3
          obtain ⟨nB, hnB⟩ : ∃ nB, nB = B.length := ⟨_, rfl⟩
          obtain ⟨nC, hnC⟩ : ∃ nC, nC = C.length := ⟨_, rfl⟩
          rw [← hnB] at f1
          rw [← hnC] at f2
          have HNB := Lib.hid hnB
          have HNC := Lib.hid hnC
          clear hnA hnB hnC hA3i hA3j
          go_wp2
          refine Rel.region3 18 (by kernel_rfl) (by kernel_rfl) (by kernel_rfl) ?_
          simp only [List.take_succ_cons, List.take_zero, List.drop_succ_cons, List.drop_zero, List.filterMap_cons, List.filterMap_nil]
          iterate 17 (refine Rel.opz (hn := ?_); (try simp only [List.nil_append, List.cons_append]))
          (apply Rel.allocT3 24 #[(.int .i64 0), (.int .i64 0), .slice none 0 0, (.int .i64 0), .slice none 0 0]; (focus (exact Rel.gno rfl)); (focus (intro a W; go_simp)); (try simp only [List.nil_append, List.cons_append]))
          refine Rel.done3 ?_
          intro x w31 h31 hx
          simp only [Rel.facts, Nat.zero_add, Nat.reduceAdd] at hx
          obtain ⟨e0, e1, e2, e3, e4, e5, e6, e7, e8, e9, e10, e11, e12, e13, e14, e15, e16, ⟨gn, e17, hgn, hG17⟩, _⟩ := hx
          simp only [Rel.fill, Nat.zero_add, Nat.reduceAdd, e0, e1, e2, e3, e4, e5, e6, e7, e8, e9, e10, e11, e12, e13, e14, e15, e16, e17]
          simp only [Act.put, List.setIfInBounds_toArray, List.set_cons_zero, List.set_cons_succ]
          clear e0 e1 e2 e3 e4 e5 e6 e7 e8 e9 e10 e11 e12 e13 e14 e15 e16 e17
          have RR31 := Lib.hid (RR.out.below h31)
          have HB31 := Lib.hid (HBR.out.trans (h31.mono HBR.out.size))
          have bnz := Lib.hid (Calm.Blk.row hG17)
          have HH := Lib.hid h31
          clear h31 f0 f1 f2 fl hx0 hx1 hx2
          obtain ⟨z0, z1, z2, z3, z4, zl, zf⟩ := bnz.out.o5
          obtain ⟨_, _, ee, hoB, hcB⟩ := own_ints (zs := B.map valS) HL.out.r1 (by simp)
          cases ee
          obtain ⟨_, _, ee, hoC, hcC⟩ := own_ints (zs := C.map valS) HL.out.r2 (by simp)
          cases ee
          have HCB := Lib.hid hcB
          have HCC := Lib.hid hcC
          have HZB : Hid (Off w.heap.size C1) := Lib.hid (fun p hp => by have := hoB p hp; omega)
          have HZC : Hid (Off w.heap.size C2) := Lib.hid (fun p hp => by have := hoC p hp; omega)
          clear hcB hcC hoB hoC hge0
          go_wp2_with (go_at_call 10; refine name_calls ?_; intro wA eA; refine Hid.out ?_)
          unfold Hid
          have KGN := Lib.hid (show Blk wA gn #[(.int .i64 x0), (.int .i64 x1), .slice C1 nB d1, (.int .i64 x2), .slice C2 nC d2] by rw [eA]; exact put5_blk bnz.out _ _ _ _ _)
          have hbA : Below wr.heap.size wr wA := by rw [eA]; exact put5_below HH.out hgn _ _ _ _ _
          have HCBA := Lib.hid (HCB.out.below hbA)
          have HCCA := Lib.hid (HCC.out.below hbA)
          have RA := Lib.hid (RR.out.below hbA)
          have HBA := Lib.hid (HBR.out.trans (hbA.mono HBR.out.size))
          clear eA z0 z1 z2 z3 z4 zl zf bnz
          obtain ⟨GE, hGE⟩ : ∃ GE, GE = guardErr x0 x1 x2 (B.map valS) (C.map valS) := ⟨_, rfl⟩
          rw [← hGE] at HOK
          have HCK : Hid (Calls Tryz.prog 10 #[.agg #[(.int .i64 x0), (.int .i64 x1), .slice C1 nB d1, (.int .i64 x2), .slice C2 nC d2]] wA fun r w' => r = .returned (.int .i64 GE) ∧ Below wA.heap.size wA w') := Lib.hid (by
            have q := pGuard_any x0 x1 x2 (B.map valS) (C.map valS) C1 C2 d1 d2 wA HCBA.out HCCA.out (by simp; omega) (by simp; omega)
            rw [List.length_map, List.length_map, ← HNB.out, ← HNC.out, ← hGE] at q
            exact q)
          clear hGE
          refine HCK.out.mono ?_
          rintro r wB ⟨rfl, hbB⟩
          have KGB := Lib.hid (KGN.out.below hbB)
          have RB := Lib.hid (RA.out.below hbB)
          have HBB := Lib.hid (HBA.out.trans (hbB.mono HBA.out.size))
          have HCBB := Lib.hid (HCBA.out.below hbB)
          have HCCB := Lib.hid (HCCA.out.below hbB)
          clear hbB hbA HCK
          obtain ⟨z0, z1, z2, z3, z4, zl, zf⟩ := KGB.out.o5
          obtain ⟨q0, q1, q2, q3, q4, ql, qf⟩ := RB.out.o5
          by_cases hge : GE = 0
          · have HQ : Hid (Q = ⟨x0, x1, x2, B.map valS, C.map valS, 0⟩) := Lib.hid (by have q := HOK.out; rwa [if_pos hge] at q)
            have hge0 : (GE != 0) = false := by simp [hge]
            clear hge
            go_wp2
            refine name_post ?_
            intro wz ez
            have KF : Blk wz w.heap.size #[(.int .i64 x0), (.int .i64 x1), .slice C1 nB d1, (.int .i64 x2), .slice C2 nC d2] := ez.symm ▸ put5_blk RB.out _ _ _ _ _
            have HF : Below w.heap.size w wz := ez.symm ▸ put5_below HBB.out (Nat.le_refl _) _ _ _ _ _
            have hbz : But w.heap.size wB wz := by rw [ez]; exact ((((But.put _ 0 _).trans (But.put _ 1 _)).trans (But.put _ 2 _)).trans (But.put _ 3 _)).trans (But.put _ 4 _)
            refine bodyPost_ret (rparse_res rfl rfl KF) rfl ⟨_, rfl, ?_, HF⟩
            rw [HQ.out]
            refine ⟨_, _, rfl, ⟨C1, d1, C2, d2, ?_, HCBB.out.but HZB.out hbz, HCCB.out.but HZC.out hbz⟩, rfl⟩
            rw [HNB.out, HNC.out]
            simp
          · have HQ : Hid (Q = ⟨0, 0, 0, [], [], GE⟩) := Lib.hid (by have q := HOK.out; rwa [if_neg hge] at q)
            have hge0 : (GE != 0) = true := by simp [hge]
            clear hge
            go_wp2
            refine name_post ?_
            intro wz ez
            have KF : Blk wz w.heap.size #[(.int .i64 0), (.int .i64 0), .slice none 0 0, (.int .i64 0), .slice none 0 0] := ez.symm ▸ zeros_gblk RB.out
            have HF : Below w.heap.size w wz := ez.symm ▸ zeros_gbelow HBB.out
            refine bodyPost_ret (rparse_res rfl rfl KF) rfl ⟨_, rfl, ?_, HF⟩
            rw [HQ.out]
            exact ⟨_, _, rfl, zero_kg _, rfl⟩
theorem rParse_P (s : ByteArray) (w : World) : Calls Tryz.prog 12 #[.string s] w (KP (KPG (parF s.data.toList)) w) := by
  by_cases h : s.size ≤ 4096
  · have hl : ¬ 4096 < s.data.toList.length := by rw [size_list]; omega
    refine rparse_walk s w (cutL 32 s.data.toList) _ h rfl ?_ (fun x hx => ?_) (Lib.hid (fun e => ?_)) (Lib.hid (fun e => ?_))
    · rw [cutL_count]
      have := List.count_le_length (a := (32 : UInt8)) (l := s.data.toList)
      rw [size_list] at this
      omega
    · have := word_len hx
      rw [size_list] at this
      omega
    · unfold parF
      rw [if_neg hl, if_pos e]
    · unfold parF
      rw [if_neg hl, if_neg (by rw [e]; decide)]
  · have hl : 4096 < s.data.toList.length := by rw [size_list]; omega
    have := rparse_long s w (by omega)
    unfold parF
    rw [if_pos hl]
    exact this
end Go.Proofs.YtdeapbihbhoefaaGreatDoor

/- What ProtectTexts' walks share. -/
namespace Go.Proofs.YtdeapbihbhoefaaGreatDoor
open Go.RowKit
theorem parF_len (l : List UInt8) : (parF l).ts.length ≤ 1000 ∧ (parF l).gs.length ≤ 1000 := by
  unfold parF
  split
  · exact ⟨by simp, by simp⟩
  · split
    · exact ⟨by simp, by simp⟩
    · split
      · rename_i h
        have hV := guard_valid h
        have e1 := hV.tl
        have e2 := hV.gl
        simp only
        omega
      · exact ⟨by simp, by simp⟩
end Go.Proofs.YtdeapbihbhoefaaGreatDoor

/- ProtectTexts, case 0. -/
namespace Go.Proofs.YtdeapbihbhoefaaGreatDoor
open Go.RowKit
open Calm (bcell Blk)
set_option maxRecDepth 100000 in
set_option maxHeartbeats 8000000 in
theorem texts_0 (lk ht rc : Int) (M L : Nat) (ts gs : List Int) (s : ByteArray) (u : Value) (w : World) (hTab : RTab w) (hM : M = ts.length) (hL : L = gs.length) (b0 : ¬ (M ≤ 9 ∧ L ≤ 9)) (hu : KG lk ht rc M ts L gs u w) :
    Calls Tryz.prog 3 #[u, .string s] w fun r w' => r = .returned (.bool true) ∧ Below w.heap.size w w' := by
  obtain ⟨A1, c1, A2, c2, rfl, hT, hG⟩ := hu
  have HU := Lib.hid (show KG lk ht rc M ts L gs (.agg #[(.int .i64 lk), (.int .i64 ht), .slice A1 M c1, (.int .i64 rc), .slice A2 L c2]) w from ⟨_, _, _, _, rfl, hT, hG⟩)
  have HSH : Hid (∀ W, KG lk ht rc M ts L gs (.agg #[(.int .i64 lk), (.int .i64 ht), .slice A1 M c1, (.int .i64 rc), .slice A2 L c2]) W → Calls Tryz.prog 5 #[.agg #[(.int .i64 lk), (.int .i64 ht), .slice A1 M c1, (.int .i64 rc), .slice A2 L c2]] W (KP (KV (.bool false)) W)) := Lib.hid (fun W q => by have := Short_K q; rwa [decide_eq_false b0] at this)
  have HTab := Lib.hid hTab
  clear hTab hM hL hT hG b0
  go_enter Tryz.func3, Tryz.ntmps3
  have HB0 := Lib.hid (Below.refl w.heap.size w)
  go_wp2_with (go_at_call 5; refine name_calls ?_; intro w1 e1; refine Hid.out ?_)
  unfold Hid
  have h1 : Below w.heap.size w w1 := by rw [e1]; exact bel
  have HB1 := Lib.hid (HB0.out.trans (h1.mono HB0.out.size))
  have bg_1 := Lib.hid (show Blk w1 w.heap.size #[(.int .i64 lk), (.int .i64 ht), .slice A1 M c1, (.int .i64 rc), .slice A2 L c2] from by rw [e1]; (repeat (first | ((with_reducible refine Blk.at_ ?_); focus (first | rfl | (simp; done) | (simp; omega))) | (with_reducible refine Blk.alloc ?_ _) | (with_reducible refine Blk.below ?_ (by with_reducible assumption)) | (with_reducible refine Blk.drew ?_))))
  clear e1 h1
  refine (HSH.out _ (KG.st _ _ _ _ _ _ _ _ _ _ HU.out HB1.out)).mono ?_
  rintro r w2 ⟨v2, rfl, k2, h2⟩
  have bg_2 := Lib.hid (bg_1.out.below h2)
  have HB2 := Lib.hid (HB1.out.trans (h2.mono HB1.out.size))
  obtain rfl := k2
  clear h2
  go_wp2_with (go_at_call 6; refine name_calls ?_; intro w3 e3; refine Hid.out ?_)
  unfold Hid
  have h3 : Below w2.heap.size w2 w3 := by rw [e3]; exact bel
  have bg_3 := Lib.hid (bg_2.out.below h3)
  have HB3 := Lib.hid (HB2.out.trans (h3.mono HB2.out.size))
  clear e3 h3
  refine (awake_any _ (HTab.out.below HB3.out).tab).mono ?_
  rintro r w4 ⟨rfl, h4⟩
  have HB4 := Lib.hid (HB3.out.trans (h4.mono HB3.out.size))
  clear h4
  go_wp2
  go_ret
  exact ⟨by first | rfl | (simp; done), HB4.out⟩
end Go.Proofs.YtdeapbihbhoefaaGreatDoor

/- ProtectTexts, case 1. -/
namespace Go.Proofs.YtdeapbihbhoefaaGreatDoor
open Go.RowKit
open Calm (bcell Blk)
set_option maxRecDepth 100000 in
set_option maxHeartbeats 8000000 in
theorem texts_1 (lk ht rc : Int) (M L : Nat) (ts gs : List Int) (s : ByteArray) (u : Value) (w : World) (hTab : RTab w) (hM : M = ts.length) (hL : L = gs.length) (b0 : M ≤ 9 ∧ L ≤ 9) (b1 : ¬ s.size ≤ 300) (b2 : s.size ≠ 4097) (hu : KG lk ht rc M ts L gs u w) :
    Calls Tryz.prog 3 #[u, .string s] w fun r w' => r = .returned (.bool true) ∧ Below w.heap.size w w' := by
  obtain ⟨A1, c1, A2, c2, rfl, hT, hG⟩ := hu
  have HU := Lib.hid (show KG lk ht rc M ts L gs (.agg #[(.int .i64 lk), (.int .i64 ht), .slice A1 M c1, (.int .i64 rc), .slice A2 L c2]) w from ⟨_, _, _, _, rfl, hT, hG⟩)
  have HSH : Hid (∀ W, KG lk ht rc M ts L gs (.agg #[(.int .i64 lk), (.int .i64 ht), .slice A1 M c1, (.int .i64 rc), .slice A2 L c2]) W → Calls Tryz.prog 5 #[.agg #[(.int .i64 lk), (.int .i64 ht), .slice A1 M c1, (.int .i64 rc), .slice A2 L c2]] W (KP (KV (.bool true)) W)) := Lib.hid (fun W q => by have := Short_K q; rwa [decide_eq_true b0] at this)
  have hl3 : (300 : Int) < (s.size : Int) := by omega
  have hd3 : decide ((300 : Int) < (s.size : Int)) = true := decide_eq_true hl3
  have hn3 : ((s.size : Int) != 4097) = true := by simp; omega
  have hn4 : ¬ (s.size : Int) = 4097 := by omega
  have HTab := Lib.hid hTab
  clear hTab hM hL hT hG b1 b2
  go_enter Tryz.func3, Tryz.ntmps3
  have HB0 := Lib.hid (Below.refl w.heap.size w)
  go_wp2_with (go_at_call 5; refine name_calls ?_; intro w1 e1; refine Hid.out ?_)
  unfold Hid
  have h1 : Below w.heap.size w w1 := by rw [e1]; exact bel
  have HB1 := Lib.hid (HB0.out.trans (h1.mono HB0.out.size))
  have bg_1 := Lib.hid (show Blk w1 w.heap.size #[(.int .i64 lk), (.int .i64 ht), .slice A1 M c1, (.int .i64 rc), .slice A2 L c2] from by rw [e1]; (repeat (first | ((with_reducible refine Blk.at_ ?_); focus (first | rfl | (simp; done) | (simp; omega))) | (with_reducible refine Blk.alloc ?_ _) | (with_reducible refine Blk.below ?_ (by with_reducible assumption)) | (with_reducible refine Blk.drew ?_))))
  clear e1 h1
  refine (HSH.out _ (KG.st _ _ _ _ _ _ _ _ _ _ HU.out HB1.out)).mono ?_
  rintro r w2 ⟨v2, rfl, k2, h2⟩
  have bg_2 := Lib.hid (bg_1.out.below h2)
  have HB2 := Lib.hid (HB1.out.trans (h2.mono HB1.out.size))
  obtain rfl := k2
  clear h2
  go_wp2_with (go_at_call 6; refine name_calls ?_; intro w3 e3; refine Hid.out ?_)
  unfold Hid
  have h3 : Below w2.heap.size w2 w3 := by rw [e3]; exact bel
  have bg_3 := Lib.hid (bg_2.out.below h3)
  have HB3 := Lib.hid (HB2.out.trans (h3.mono HB2.out.size))
  clear e3 h3
  refine (awake_any _ (HTab.out.below HB3.out).tab).mono ?_
  rintro r w4 ⟨rfl, h4⟩
  have HB4 := Lib.hid (HB3.out.trans (h4.mono HB3.out.size))
  clear h4
  go_wp2
  go_ret
  exact ⟨by first | rfl | (simp; done), HB4.out⟩
end Go.Proofs.YtdeapbihbhoefaaGreatDoor
