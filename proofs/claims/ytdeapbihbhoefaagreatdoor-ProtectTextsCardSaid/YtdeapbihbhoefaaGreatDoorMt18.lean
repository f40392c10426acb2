/- Part 18 of the texts of the claim: RT4, Kc. -/
import Derived.Test.YtdeapbihbhoefaaGreatDoorMt16
import Derived.Test.YtdeapbihbhoefaaGreatDoorMt7
import Derived.Test.YtdeapbihbhoefaaGreatDoorMt17
import Derived.Test.YtdeapbihbhoefaaGreatDoorMt11
import Derived.Test.YtdeapbihbhoefaaGreatDoorMt8
import Derived.Test.YtdeapbihbhoefaaGreatDoorMt15

/- The program's reader: integers. -/
namespace Go.Proofs.YtdeapbihbhoefaaGreatDoor
open Go.RowKit
open Go.Lib
open Calm (bcell Blk)
theorem but_grown {g : Nat} {w W W' : World} {row : Option Nat} (h : But g w W) (hg : W.grownBy W' row) (hr : ∀ k, row = some k → w.heap.size ≤ k) : But g w W' :=
  ⟨hg.os.trans h.os, hg.tape.trans h.tape, hg.output.trans h.output, Nat.le_trans h.size hg.size, fun k hk => (hg.block k (Nat.lt_of_lt_of_le hk.1 h.size) (fun e => by have := hr k e.symm; have := hk.1; omega)).trans (h.block k hk)⟩
theorem turn_blk {w1 : World} {g : Nat} {x y : Value} (K : Blk w1 g #[x, y]) (v u : Value) (o : Obj) : Blk (((w1.setCell ⟨g, 0, none⟩ v).setCell ⟨g, 1, none⟩ u).drew.alloc o) g #[v, u] ∧ But g w1 (((w1.setCell ⟨g, 0, none⟩ v).setCell ⟨g, 1, none⟩ u).drew.alloc o) := by
  refine ⟨?_, ((But.put w1 0 v).trans (But.put _ 1 u)).trans ((But.drawn _).trans (But.of ((Below.refl _ _).alloc (Nat.le_refl _) _)))⟩
  have := (((K.set (i := 0) (by simp) v).set (i := 1) (by simp) u)).drew.alloc o
  simpa using this
theorem all_snoc (f : Bool) (P : List (List UInt8)) (x : List UInt8) : (f || !(P ++ [x]).all isS) = ((f || !P.all isS) || !isS x) := by
  rw [List.all_append]
  simp only [List.all_cons, List.all_nil, Bool.and_true]
  cases f <;> cases P.all isS <;> cases isS x <;> rfl
theorem pre_stop {m : List UInt8} {P R : List (List UInt8)} (h : ∀ x ∈ P, x ≠ m) (hr : R = [] ∨ R.head? = some m) : preW m (P ++ R) = P ∧ postW m (P ++ R) = R := by
  rcases hr with rfl | hr
  · rw [List.append_nil]; exact preW_all h
  · cases R with
    | nil => cases hr
    | cons y R =>
      simp at hr
      subst hr
      exact preW_app h
def sliceLen : Value → Nat
  | .slice _ n _ => n
  | _ => 0
set_option maxHeartbeats 8000000 in
set_option maxRecDepth 100000 in
theorem ints_any' (g : Nat) (W : List (List UInt8)) (f : Bool) (m : List UInt8) (w : World) (hB : WB W) (h : RdS g W f w) :
    Calls Tryz.prog 42 #[.pointer (some ⟨g, 0, none⟩), .string ⟨m.toArray⟩] w fun r w' => ∃ B c, r = .returned (.slice B (preW m W).length c) ∧ Cells w' B ((preW m W).map valS) ∧ (∀ p, B = some p → w.heap.size ≤ p.block) ∧ RdS g (intsR m (W, f)).1 (intsR m (W, f)).2 w' ∧ But g w w' := by
  obtain ⟨A0, k0, c0⟩ := h
  have hg := k0.lt
  have HB := Lib.hid hB
  have HK0 := Lib.hid k0
  have HC0 := Lib.hid c0
  obtain ⟨i0, hii, hz0, hz1, hz2⟩ := info_parts Tryz.infoI
  have HW0 := Lib.hid hB.1
  clear hB k0 c0
  go_enter Tryz.func42, Tryz.ntmps42
  go_wp2
  go_loopw [5] (fun o wq => ∃ (P R : List (List UInt8)) (A : Option Addr), W = P ++ R ∧ (∀ x ∈ P, x ≠ m) ∧ wq.ownsRow w.heap.size 3 1 o P.length ((P.map valS).map (Value.int .i64)) ∧ Blk wq g #[.slice A R.length R.length, .bool (f || !P.all isS)] ∧ WC w g A R ∧ But g w wq) (fun o _ => W.length + 1 - sliceLen o)
  case atStart => exact ⟨[], W, A0, rfl, (fun x hx => by cases hx), World.ownsRow_nil _ _ _ _, by simpa using HK0.out, HC0.out, But.refl _ _⟩
  case round =>
    obtain ⟨P, R, A, hW, hP, ho, hk, hc, hb⟩ := hrel
    obtain ⟨C, d, rfl⟩ := own_slice ho
    have HWW := Lib.hid hW
    have HPP := Lib.hid hP
    have HO := Lib.hid ho
    have HK := Lib.hid hk
    have HC := Lib.hid hc
    have HBB := Lib.hid hb
    have hlen : P.length + R.length ≤ 5000 := by have := HW0.out; rw [hW, List.length_append] at this; exact this
    obtain ⟨f0, f1, fl, ff⟩ := hk.o2
    clear hW hP ho hk hc hb
    cases R with
    | nil =>
      go_wp2
      go_ret
      obtain ⟨B', c', e1, hge, hcc⟩ := own_ints (zs := P.map valS) HO.out (by simp)
      cases e1
      obtain ⟨s1, s2⟩ := pre_stop HPP.out (.inl rfl)
      rw [HWW.out]
      unfold intsR
      simp only
      rw [s1, s2]
      exact ⟨C, d, rfl, hcc, hge, ⟨A, HK.out, WC.nil _⟩, HBB.out⟩
    | cons x R =>
      obtain ⟨b, off, hA, hne, hbl, hcell⟩ := (HC.out.but HBB.out) (by simp)
      subst hA
      have hc0 := hcell 0 x rfl
      rw [Nat.add_zero] at hc0
      have hRl : R.length ≤ 5000 := by simp at hlen; omega
      by_cases hx : x = m
      · have e1 : (x == m) = true := by rw [hx]; exact beq_self_eq_true _
        have HX := Lib.hid hx
        clear hx hcell
        go_wp2
        go_ret
        obtain ⟨B', c', e1, hge, hcc⟩ := own_ints (zs := P.map valS) HO.out (by simp)
        cases e1
        obtain ⟨s1, s2⟩ := pre_stop (R := x :: R) HPP.out (.inr (by rw [HX.out]; rfl))
        rw [HWW.out]
        unfold intsR
        simp only
        rw [s1, s2]
        exact ⟨C, d, rfl, hcc, hge, ⟨_, HK.out, HC.out.but HBB.out⟩, HBB.out⟩
      · have e1 : (x == m) = false := beq_eq_false_iff_ne.2 hx
        have HX := Lib.hid hx
        have hx4 : x.length ≤ 4096 := HB.out.2 x (by rw [HWW.out]; simp)
        have HIN : Hid (∀ W : World, Calls Tryz.prog 77 #[.string ⟨x.toArray⟩] W fun r w' => r = .returned (.tuple #[(.int .i64 (valS x)), .bool (isS x)]) ∧ Below W.heap.size W w') := Lib.hid (fun W => integer_P ⟨x.toArray⟩ W (by show x.toArray.size ≤ 4096; simpa using hx4))
        obtain ⟨V, hV⟩ : ∃ V, V = valS x := ⟨_, rfl⟩
        obtain ⟨S, hS⟩ : ∃ S, S = isS x := ⟨_, rfl⟩
        rw [← hV, ← hS] at HIN
        obtain ⟨q, hq⟩ : ∃ q, q = (f || !P.all isS) := ⟨_, rfl⟩
        have HQ := Lib.hid (show (f || !(P ++ [x]).all isS) = (q || !S) by rw [all_snoc, ← hq, ← hS])
        have HVV := Lib.hid hV
        rw [← hq] at f1 HK
        have hsl : W.length = P.length + (R.length + 1) := by rw [HWW.out]; simp
        have HSL := Lib.hid hsl
        clear hx hcell hV hS hq hx4 hsl
        go_wp2_with (go_at_call 77; refine (HIN.out _).mono ?_; rintro r w2 ⟨rfl, hb2⟩; refine Hid.out ?_)
        unfold Hid
        have K2 := Lib.hid (HK.out.below hb2)
        have HB2 := Lib.hid (HBB.out.trans (But.of hb2))
        have HO2 := Lib.hid (ownsRow_below HO.out hb2)
        have hz2' := HB2.out.size
        clear hb2 HIN f0 f1 fl ff hc0 HK HO
        obtain ⟨f0, f1, fl, ff⟩ := K2.out.o2
        cases q
        · cases R with
          | nil =>
            go_wp2
            go_region
            go_wp2_with (at_builtin; refine name_list ?_; intro w3 e3; refine Hid.out ?_)
            obtain ⟨t1, t2⟩ := turn_blk K2.out (.slice (some ⟨b, off, none⟩) 0 0) (.bool (!S)) (.cells #[(.int .i64 V)] 3)
            have K3 : Blk w3 g #[.slice (some ⟨b, off, none⟩) 0 0, .bool (!S)] := by rw [e3]; exact t1
            have HB3 := Lib.hid (show But g w w3 by rw [e3]; exact HB2.out.trans t2)
            have KR3 := Lib.hid (show Blk w3 w2.heap.size #[(.int .i64 V)] by have q := Calm.Blk.new (((w2.setCell ⟨g, 0, none⟩ (.slice (some ⟨b, off, none⟩) 0 0)).setCell ⟨g, 1, none⟩ (.bool (!S))).drew) 3 #[(.int .i64 V)]; rw [show (((w2.setCell ⟨g, 0, none⟩ (.slice (some ⟨b, off, none⟩) 0 0)).setCell ⟨g, 1, none⟩ (.bool (!S))).drew).heap.size = w2.heap.size by simp [World.drew]] at q; rw [e3]; exact q)
            have hz3 : w3.heap.size = w2.heap.size + 1 := by rw [e3]; simp [World.drew]
            have hlt0 := HO2.out.lt
            have HO3 := Lib.hid (ownsRow_block (W' := w3) HO2.out (fun k hk => by rw [e3]; exact t2.block k ⟨(hlt0 k hk).2, by have := (hlt0 k hk).1; omega⟩))
            have HK3 := Lib.hid K3
            clear e3 t1 t2 K3 f0 f1 fl ff
            unfold Hid
            refine wpList_append_own _ rfl _ _ 22 rfl (w.heap.size) 3 i0 _ 1 8 Tryz.underlying22 hii hz0 hz1 hz2 rfl (by decide) _ _ _ rfl HO3.out ⟨w2.heap.size, 0, none⟩ 1 1 [(.int .i64 V)] rfl rfl ?c1 ?c2 ?c3 ?c4 ?c5 ?_
            case c1 =>
              intro j u hj
              match j, hj with
              | 0, hj => simp at hj; subst hj; exact KR3.out.cell 0 _ rfl
            case c2 => intro u hu; simp at hu; subst hu; rfl
            case c3 => unfold maxLen; omega
            case c4 => omega
            case c5 => omega
            intro v4 w4 hown' hgrow _
            obtain ⟨C4, d4, rfl⟩ := own_slice hown'
            have hlt3 := HO3.out.lt
            have HB4 := Lib.hid (but_grown HB3.out hgrow (fun j hj => (hlt3 j hj).1))
            have HK4 := Lib.hid (grown_blk HK3.out hgrow (fun j hj => by have := (hlt3 j hj).1; omega))
            have HO4 := Lib.hid hown'
            clear hown' hgrow hlt3 hlt0
            go_wp2
            go_roundw
            case rel => exact ⟨P ++ [x], [], _, by rw [HWW.out]; simp, (fun z hz => (List.mem_append.1 hz).elim (HPP.out z) (fun h => by obtain rfl := List.mem_singleton.1 h; exact HX.out)), by rw [List.length_append, List.map_append, List.map_append]; rw [HVV.out] at HO4; exact HO4.out, by rw [HQ.out]; exact HK4.out, (WC.nil _), HB4.out⟩
            case measure => have := HSL.out; simp [sliceLen] at *; omega
          | cons y R =>
            go_wp2
            go_region
            go_wp2_with (at_builtin; refine name_list ?_; intro w3 e3; refine Hid.out ?_)
            obtain ⟨t1, t2⟩ := turn_blk K2.out (.slice (some ⟨b, off + 1, none⟩) (R.length + 1) (R.length + 1)) (.bool (!S)) (.cells #[(.int .i64 V)] 3)
            have K3 : Blk w3 g #[.slice (some ⟨b, off + 1, none⟩) (R.length + 1) (R.length + 1), .bool (!S)] := by rw [e3]; exact t1
            have HB3 := Lib.hid (show But g w w3 by rw [e3]; exact HB2.out.trans t2)
            have KR3 := Lib.hid (show Blk w3 w2.heap.size #[(.int .i64 V)] by have q := Calm.Blk.new (((w2.setCell ⟨g, 0, none⟩ (.slice (some ⟨b, off + 1, none⟩) (R.length + 1) (R.length + 1))).setCell ⟨g, 1, none⟩ (.bool (!S))).drew) 3 #[(.int .i64 V)]; rw [show (((w2.setCell ⟨g, 0, none⟩ (.slice (some ⟨b, off + 1, none⟩) (R.length + 1) (R.length + 1))).setCell ⟨g, 1, none⟩ (.bool (!S))).drew).heap.size = w2.heap.size by simp [World.drew]] at q; rw [e3]; exact q)
            have hz3 : w3.heap.size = w2.heap.size + 1 := by rw [e3]; simp [World.drew]
            have hlt0 := HO2.out.lt
            have HO3 := Lib.hid (ownsRow_block (W' := w3) HO2.out (fun k hk => by rw [e3]; exact t2.block k ⟨(hlt0 k hk).2, by have := (hlt0 k hk).1; omega⟩))
            have HK3 := Lib.hid K3
            clear e3 t1 t2 K3 f0 f1 fl ff
            unfold Hid
            refine wpList_append_own _ rfl _ _ 22 rfl (w.heap.size) 3 i0 _ 1 8 Tryz.underlying22 hii hz0 hz1 hz2 rfl (by decide) _ _ _ rfl HO3.out ⟨w2.heap.size, 0, none⟩ 1 1 [(.int .i64 V)] rfl rfl ?c1 ?c2 ?c3 ?c4 ?c5 ?_
            case c1 =>
              intro j u hj
              match j, hj with
              | 0, hj => simp at hj; subst hj; exact KR3.out.cell 0 _ rfl
            case c2 => intro u hu; simp at hu; subst hu; rfl
            case c3 => unfold maxLen; omega
            case c4 => omega
            case c5 => omega
            intro v4 w4 hown' hgrow _
            obtain ⟨C4, d4, rfl⟩ := own_slice hown'
            have hlt3 := HO3.out.lt
            have HB4 := Lib.hid (but_grown HB3.out hgrow (fun j hj => (hlt3 j hj).1))
            have HK4 := Lib.hid (grown_blk HK3.out hgrow (fun j hj => by have := (hlt3 j hj).1; omega))
            have HO4 := Lib.hid hown'
            clear hown' hgrow hlt3 hlt0
            go_wp2
            go_roundw
            case rel => exact ⟨P ++ [x], y :: R, _, by rw [HWW.out]; simp, (fun z hz => (List.mem_append.1 hz).elim (HPP.out z) (fun h => by obtain rfl := List.mem_singleton.1 h; exact HX.out)), by rw [List.length_append, List.map_append, List.map_append]; rw [HVV.out] at HO4; exact HO4.out, by rw [HQ.out]; exact HK4.out, HC.out.tail, HB4.out⟩
            case measure => have := HSL.out; simp [sliceLen] at *; omega
        · cases R with
          | nil =>
            go_wp2
            go_region
            go_wp2_with (at_builtin; refine name_list ?_; intro w3 e3; refine Hid.out ?_)
            obtain ⟨t1, t2⟩ := turn_blk K2.out (.slice (some ⟨b, off, none⟩) 0 0) (.bool true) (.cells #[(.int .i64 V)] 3)
            have K3 : Blk w3 g #[.slice (some ⟨b, off, none⟩) 0 0, .bool true] := by rw [e3]; exact t1
            have HB3 := Lib.hid (show But g w w3 by rw [e3]; exact HB2.out.trans t2)
            have KR3 := Lib.hid (show Blk w3 w2.heap.size #[(.int .i64 V)] by have q := Calm.Blk.new (((w2.setCell ⟨g, 0, none⟩ (.slice (some ⟨b, off, none⟩) 0 0)).setCell ⟨g, 1, none⟩ (.bool true)).drew) 3 #[(.int .i64 V)]; rw [show (((w2.setCell ⟨g, 0, none⟩ (.slice (some ⟨b, off, none⟩) 0 0)).setCell ⟨g, 1, none⟩ (.bool true)).drew).heap.size = w2.heap.size by simp [World.drew]] at q; rw [e3]; exact q)
            have hz3 : w3.heap.size = w2.heap.size + 1 := by rw [e3]; simp [World.drew]
            have hlt0 := HO2.out.lt
            have HO3 := Lib.hid (ownsRow_block (W' := w3) HO2.out (fun k hk => by rw [e3]; exact t2.block k ⟨(hlt0 k hk).2, by have := (hlt0 k hk).1; omega⟩))
            have HK3 := Lib.hid K3
            clear e3 t1 t2 K3 f0 f1 fl ff
            unfold Hid
            refine wpList_append_own _ rfl _ _ 22 rfl (w.heap.size) 3 i0 _ 1 8 Tryz.underlying22 hii hz0 hz1 hz2 rfl (by decide) _ _ _ rfl HO3.out ⟨w2.heap.size, 0, none⟩ 1 1 [(.int .i64 V)] rfl rfl ?c1 ?c2 ?c3 ?c4 ?c5 ?_
            case c1 =>
              intro j u hj
              match j, hj with
              | 0, hj => simp at hj; subst hj; exact KR3.out.cell 0 _ rfl
            case c2 => intro u hu; simp at hu; subst hu; rfl
            case c3 => unfold maxLen; omega
            case c4 => omega
            case c5 => omega
            intro v4 w4 hown' hgrow _
            obtain ⟨C4, d4, rfl⟩ := own_slice hown'
            have hlt3 := HO3.out.lt
            have HB4 := Lib.hid (but_grown HB3.out hgrow (fun j hj => (hlt3 j hj).1))
            have HK4 := Lib.hid (grown_blk HK3.out hgrow (fun j hj => by have := (hlt3 j hj).1; omega))
            have HO4 := Lib.hid hown'
            clear hown' hgrow hlt3 hlt0
            go_wp2
            go_roundw
            case rel => exact ⟨P ++ [x], [], _, by rw [HWW.out]; simp, (fun z hz => (List.mem_append.1 hz).elim (HPP.out z) (fun h => by obtain rfl := List.mem_singleton.1 h; exact HX.out)), by rw [List.length_append, List.map_append, List.map_append]; rw [HVV.out] at HO4; exact HO4.out, by rw [HQ.out]; exact HK4.out, (WC.nil _), HB4.out⟩
            case measure => have := HSL.out; simp [sliceLen] at *; omega
          | cons y R =>
            go_wp2
            go_region
            go_wp2_with (at_builtin; refine name_list ?_; intro w3 e3; refine Hid.out ?_)
            obtain ⟨t1, t2⟩ := turn_blk K2.out (.slice (some ⟨b, off + 1, none⟩) (R.length + 1) (R.length + 1)) (.bool true) (.cells #[(.int .i64 V)] 3)
            have K3 : Blk w3 g #[.slice (some ⟨b, off + 1, none⟩) (R.length + 1) (R.length + 1), .bool true] := by rw [e3]; exact t1
            have HB3 := Lib.hid (show But g w w3 by rw [e3]; exact HB2.out.trans t2)
            have KR3 := Lib.hid (show Blk w3 w2.heap.size #[(.int .i64 V)] by have q := Calm.Blk.new (((w2.setCell ⟨g, 0, none⟩ (.slice (some ⟨b, off + 1, none⟩) (R.length + 1) (R.length + 1))).setCell ⟨g, 1, none⟩ (.bool true)).drew) 3 #[(.int .i64 V)]; rw [show (((w2.setCell ⟨g, 0, none⟩ (.slice (some ⟨b, off + 1, none⟩) (R.length + 1) (R.length + 1))).setCell ⟨g, 1, none⟩ (.bool true)).drew).heap.size = w2.heap.size by simp [World.drew]] at q; rw [e3]; exact q)
            have hz3 : w3.heap.size = w2.heap.size + 1 := by rw [e3]; simp [World.drew]
            have hlt0 := HO2.out.lt
            have HO3 := Lib.hid (ownsRow_block (W' := w3) HO2.out (fun k hk => by rw [e3]; exact t2.block k ⟨(hlt0 k hk).2, by have := (hlt0 k hk).1; omega⟩))
            have HK3 := Lib.hid K3
            clear e3 t1 t2 K3 f0 f1 fl ff
            unfold Hid
            refine wpList_append_own _ rfl _ _ 22 rfl (w.heap.size) 3 i0 _ 1 8 Tryz.underlying22 hii hz0 hz1 hz2 rfl (by decide) _ _ _ rfl HO3.out ⟨w2.heap.size, 0, none⟩ 1 1 [(.int .i64 V)] rfl rfl ?c1 ?c2 ?c3 ?c4 ?c5 ?_
            case c1 =>
              intro j u hj
              match j, hj with
              | 0, hj => simp at hj; subst hj; exact KR3.out.cell 0 _ rfl
            case c2 => intro u hu; simp at hu; subst hu; rfl
            case c3 => unfold maxLen; omega
            case c4 => omega
            case c5 => omega
            intro v4 w4 hown' hgrow _
            obtain ⟨C4, d4, rfl⟩ := own_slice hown'
            have hlt3 := HO3.out.lt
            have HB4 := Lib.hid (but_grown HB3.out hgrow (fun j hj => (hlt3 j hj).1))
            have HK4 := Lib.hid (grown_blk HK3.out hgrow (fun j hj => by have := (hlt3 j hj).1; omega))
            have HO4 := Lib.hid hown'
            clear hown' hgrow hlt3 hlt0
            go_wp2
            go_roundw
            case rel => exact ⟨P ++ [x], y :: R, _, by rw [HWW.out]; simp, (fun z hz => (List.mem_append.1 hz).elim (HPP.out z) (fun h => by obtain rfl := List.mem_singleton.1 h; exact HX.out)), by rw [List.length_append, List.map_append, List.map_append]; rw [HVV.out] at HO4; exact HO4.out, by rw [HQ.out]; exact HK4.out, HC.out.tail, HB4.out⟩
            case measure => have := HSL.out; simp [sliceLen] at *; omega
end Go.Proofs.YtdeapbihbhoefaaGreatDoor

/- The program's functions as contracts over what is known of their arguments, errors and all. -/
namespace Go.Proofs.YtdeapbihbhoefaaGreatDoor
open Go.RowKit
open Calm (bcell Blk)

def begLv (E : Int) (L : Nat) : Int := if E = 0 then ((L - 1 : Nat) : Int) else 0
def begPs (E : Int) (M : Nat) : List Int := if E = 0 then List.replicate (M - 1) 0 else []
theorem cBegin {lk ht rc : Int} {ts gs : List Int} {M L N : Nat} {u : Value} {W : World} (hM : M = ts.length) (hL : L = gs.length) (h1 : M ≤ 1000) (h2 : L ≤ 1000) (hu : KG lk ht rc M ts L gs u W) (hN : N = (begPs (guardErr lk ht rc ts gs) M).length) :
    Calls Tryz.prog 22 #[u] W (KP (K2 (KTI 0 (begLv (guardErr lk ht rc ts gs) L) N (begPs (guardErr lk ht rc ts gs) M)) (KV (.int .i64 (guardErr lk ht rc ts gs)))) W) := by
  obtain ⟨A1, c1, A2, c2, rfl, hT, hG⟩ := hu
  unfold begPs begLv at *
  by_cases he : guardErr lk ht rc ts gs = 0
  · rw [if_pos he] at hN ⊢
    rw [if_pos he, he]
    rw [List.length_replicate] at hN
    subst hN
    exact (Begin_ok lk ht rc ts gs A1 A2 M L c1 c2 W hM hL hT hG h1 h2 he).mono fun e W' ⟨⟨B, _, h, hc, hi⟩, hb⟩ => ⟨_, h, ⟨_, _, rfl, ⟨_, _, rfl, hc, fun p hp => by cases hp; exact hi⟩, rfl⟩, hb⟩
  · rw [if_neg he] at hN ⊢
    rw [if_neg he]
    subst hN
    exact (Begin_bad lk ht rc ts gs A1 A2 M L c1 c2 W hM hL hT hG h1 h2 he).mono fun e W' ⟨h, hb⟩ => ⟨_, h, ⟨_, _, rfl, KTI.zero _, rfl⟩, hb⟩
/-- what Behind hands back. -/
structure BehR where
  h : Int
  lv : Int
  ps : List Int
  ex : Int
  err : Int
def behR (lk ht rc : Int) (ts gs : List Int) (h lv : Int) (ps : List Int) (y : Int) : BehR :=
  if bothErr lk ht rc ts gs h lv ps y = 0 then (if 536870912 < coolF lk h + y * y then ⟨0, 0, [], 0, 4⟩ else ⟨coolF lk h + y * y, lv, pushL ps y, exF ts ps y, 0⟩) else ⟨0, 0, [], 0, bothErr lk ht rc ts gs h lv ps y⟩
theorem cBehind {lk ht rc h lv y : Int} {ts gs ps : List Int} {M L N N2 : Nat} {u v : Value} {W : World} (hM : M = ts.length) (hL : L = gs.length) (hN : N = ps.length) (h1 : M ≤ 1000) (h2 : L ≤ 1000) (h3 : N ≤ 1000) (hLim : Lim W) (hu : KG lk ht rc M ts L gs u W) (hv : KT h lv N ps v W)
    (hN2 : N2 = (behR lk ht rc ts gs h lv ps y).ps.length) :
    Calls Tryz.prog 18 #[u, v, (.int .i64 y)] W (KP (K3 (KTI (behR lk ht rc ts gs h lv ps y).h (behR lk ht rc ts gs h lv ps y).lv N2 (behR lk ht rc ts gs h lv ps y).ps) (KV (.int .i64 ((behR lk ht rc ts gs h lv ps y).ex))) (KV (.int .i64 ((behR lk ht rc ts gs h lv ps y).err)))) W) := by
  obtain ⟨A1, c1, A2, c2, rfl, hT, hG⟩ := hu
  obtain ⟨A3, c3, rfl, hP⟩ := hv
  unfold behR at *
  by_cases he : bothErr lk ht rc ts gs h lv ps y = 0
  · rw [if_pos he] at hN2 ⊢
    by_cases hl : 536870912 < coolF lk h + y * y
    · rw [if_pos hl] at hN2 ⊢
      subst hN2
      exact (Behind_large lk ht rc h lv y ts gs ps A1 A2 A3 M L N c1 c2 c3 W hM hL hN hLim hT hG hP h1 h2 h3 he hl).mono fun e W' ⟨h, hb⟩ => ⟨_, h, ⟨_, _, _, rfl, KTI.zero _, rfl, rfl⟩, hb⟩
    · rw [if_neg hl] at hN2 ⊢
      have e : N2 = N := by rw [hN2, hN]; exact pushL_len ps y
      subst e
      exact (Behind_ok lk ht rc h lv y ts gs ps A1 A2 A3 M L N2 c1 c2 c3 W hM hL hN hLim hT hG hP h1 h2 h3 he hl).mono fun e W' ⟨⟨B, _, h, hc, hi⟩, hb⟩ => ⟨_, h, ⟨_, _, _, rfl, ⟨_, _, rfl, hc, fun p hp => by cases hp; exact hi⟩, rfl, rfl⟩, hb⟩
  · rw [if_neg he] at hN2 ⊢
    subst hN2
    exact (Behind_bad lk ht rc h lv y ts gs ps A1 A2 A3 M L N c1 c2 c3 W hM hL hN hLim hT hG hP h1 h2 h3 he).mono fun e W' ⟨h, hb⟩ => ⟨_, h, ⟨_, _, _, rfl, KTI.zero _, rfl, rfl⟩, hb⟩
/-- what Step hands back. -/
structure StepR where
  out : Int
  h : Int
  lv : Int
  ps : List Int
  err : Int
def stepR (lk ht rc : Int) (ts gs : List Int) (h lv : Int) (ps : List Int) (y : Int) : StepR :=
  if bothErr lk ht rc ts gs h lv ps y = 0 then (if fineF ht rc h 0 ts ps = true then ⟨outF lk ht rc ts gs ⟨h, lv.toNat, ps⟩ y, (stF lk ht rc ts gs ⟨h, lv.toNat, ps⟩ y).h, ((stF lk ht rc ts gs ⟨h, lv.toNat, ps⟩ y).lv : Int), (stF lk ht rc ts gs ⟨h, lv.toNat, ps⟩ y).ps, 0⟩ else ⟨0, 0, 0, [], 20⟩) else ⟨0, 0, 0, [], bothErr lk ht rc ts gs h lv ps y⟩
theorem cStep {lk ht rc h lv y : Int} {ts gs ps : List Int} {M L N N2 : Nat} {u v : Value} {W : World} (hM : M = ts.length) (hL : L = gs.length) (hN : N = ps.length) (h1 : M ≤ 1000) (h2 : L ≤ 1000) (h3 : N ≤ 1000) (hLim : Lim W) (hu : KG lk ht rc M ts L gs u W) (hv : KT h lv N ps v W)
    (hN2 : N2 = (stepR lk ht rc ts gs h lv ps y).ps.length) :
    Calls Tryz.prog 24 #[u, v, (.int .i64 y)] W (KP (K3 (KV (.int .i64 ((stepR lk ht rc ts gs h lv ps y).out))) (KTI (stepR lk ht rc ts gs h lv ps y).h (stepR lk ht rc ts gs h lv ps y).lv N2 (stepR lk ht rc ts gs h lv ps y).ps) (KV (.int .i64 ((stepR lk ht rc ts gs h lv ps y).err)))) W) := by
  obtain ⟨A1, c1, A2, c2, rfl, hT, hG⟩ := hu
  obtain ⟨A3, c3, rfl, hP⟩ := hv
  unfold stepR at *
  by_cases he : bothErr lk ht rc ts gs h lv ps y = 0
  · rw [if_pos he] at hN2 ⊢
    have hS := stErr_zero (bothErr_zero he).1
    by_cases hf : fineF ht rc h 0 ts ps = true
    · rw [if_pos hf] at hN2 ⊢
      have hlv : lv = (lv.toNat : Int) := by have := hS.lv.1; omega
      obtain ⟨k, rfl⟩ : ∃ k : Nat, lv = k := ⟨lv.toNat, hlv⟩
      rw [Int.toNat_natCast] at hN2 ⊢
      have e : N2 = N := by rw [hN2, hN]; exact pushL_len ps _
      subst e
      exact (Step_ok lk ht rc h y k ts gs ps A1 A2 A3 M L N2 c1 c2 c3 W hM hL hN hLim hT hG hP h1 h2 h3 he (fine_good hS hf)).mono fun e W' ⟨⟨B, _, h, hc, hi⟩, hb⟩ => ⟨_, h, ⟨_, _, _, rfl, rfl, ⟨_, _, rfl, hc, fun p hp => by cases hp; exact hi⟩, rfl⟩, hb⟩
    · rw [if_neg hf] at hN2 ⊢
      subst hN2
      exact (Step_unsafe lk ht rc h lv y ts gs ps A1 A2 A3 M L N c1 c2 c3 W hM hL hN hLim hT hG hP h1 h2 h3 he (by simpa using hf)).mono fun e W' ⟨h, hb⟩ => ⟨_, h, ⟨_, _, _, rfl, rfl, KTI.zero _, rfl⟩, hb⟩
  · rw [if_neg he] at hN2 ⊢
    subst hN2
    exact (Step_bad lk ht rc h lv y ts gs ps A1 A2 A3 M L N c1 c2 c3 W hM hL hN hLim hT hG hP h1 h2 h3 he).mono fun e W' ⟨h, hb⟩ => ⟨_, h, ⟨_, _, _, rfl, rfl, KTI.zero _, rfl⟩, hb⟩
def tailR (lk ht rc : Int) (ts gs : List Int) (h lv : Int) (ps : List Int) : List Int := if stErr lk ht rc ts gs h lv ps = 0 then tailsF ts ps else []
theorem cTails {lk ht rc h lv : Int} {ts gs ps : List Int} {M L N N2 : Nat} {u v : Value} {W : World} (hM : M = ts.length) (hL : L = gs.length) (hN : N = ps.length) (h1 : M ≤ 1000) (h2 : L ≤ 1000) (h3 : N ≤ 1000) (hLim : Lim W) (hu : KG lk ht rc M ts L gs u W) (hv : KT h lv N ps v W)
    (hN2 : N2 = (tailR lk ht rc ts gs h lv ps).length) :
    Calls Tryz.prog 20 #[u, v] W (KP (K2 (KS N2 (tailR lk ht rc ts gs h lv ps)) (KV (.int .i64 (stErr lk ht rc ts gs h lv ps)))) W) := by
  obtain ⟨A1, c1, A2, c2, rfl, hT, hG⟩ := hu
  obtain ⟨A3, c3, rfl, hP⟩ := hv
  unfold tailR at *
  by_cases he : stErr lk ht rc ts gs h lv ps = 0
  · rw [if_pos he] at hN2 ⊢
    rw [he]
    have e : N2 = N := by rw [hN2, hN]; exact tailsL_len _ _ _
    subst e
    exact (Tails_ok lk ht rc h lv ts gs ps A1 A2 A3 M L N2 c1 c2 c3 W hM hL hN hLim hT hG hP h1 h2 h3 he).mono fun e W' ⟨⟨B, c, h, hc⟩, hb⟩ => ⟨_, h, ⟨_, _, rfl, ⟨_, _, rfl, hc⟩, rfl⟩, hb⟩
  · rw [if_neg he] at hN2 ⊢
    subst hN2
    exact (Tails_bad lk ht rc h lv ts gs ps A1 A2 A3 M L N c1 c2 c3 W hM hL hN hLim hT hG hP h1 h2 h3 he).mono fun e W' ⟨h, hb⟩ => ⟨_, h, ⟨_, _, rfl, KS.nil _, rfl⟩, hb⟩

def safeR (lk ht rc : Int) (ts gs : List Int) (h lv : Int) (ps : List Int) : Bool := if stErr lk ht rc ts gs h lv ps = 0 then fineF ht rc h 0 ts ps else false
theorem cSafe {lk ht rc h lv : Int} {ts gs ps : List Int} {M L N : Nat} {u v : Value} {W : World} (hM : M = ts.length) (hL : L = gs.length) (hN : N = ps.length) (h1 : M ≤ 1000) (h2 : L ≤ 1000) (h3 : N ≤ 1000) (hLim : Lim W) (hu : KG lk ht rc M ts L gs u W) (hv : KT h lv N ps v W) :
    Calls Tryz.prog 19 #[u, v] W (KP (K2 (KV (.bool (safeR lk ht rc ts gs h lv ps))) (KV (.int .i64 (stErr lk ht rc ts gs h lv ps)))) W) := by
  obtain ⟨A1, c1, A2, c2, rfl, hT, hG⟩ := hu
  obtain ⟨A3, c3, rfl, hP⟩ := hv
  unfold safeR
  by_cases he : stErr lk ht rc ts gs h lv ps = 0
  · rw [if_pos he, he]
    exact (Safe_ok lk ht rc h lv ts gs ps A1 A2 A3 M L N c1 c2 c3 W hM hL hN hLim hT hG hP h1 h2 h3 he).mono fun e W' ⟨h, hb⟩ => ⟨_, h, ⟨_, _, rfl, rfl, rfl⟩, hb⟩
  · rw [if_neg he]
    exact (Safe_bad lk ht rc h lv ts gs ps A1 A2 A3 M L N c1 c2 c3 W hM hL hN hLim hT hG hP h1 h2 h3 he).mono fun e W' ⟨h, hb⟩ => ⟨_, h, ⟨_, _, rfl, rfl, rfl⟩, hb⟩
def relR (lk ht rc : Int) (ts gs : List Int) (h lv : Int) (ps : List Int) : Int × Int :=
  if stErr lk ht rc ts gs h lv ps = 0 then (if fineF ht rc h 0 ts ps = true then (((gs.length - 1 - lv.toNat : Nat) : Int), 0) else (0, 20)) else (0, stErr lk ht rc ts gs h lv ps)
theorem cRelease {lk ht rc h lv : Int} {ts gs ps : List Int} {M L N : Nat} {u v : Value} {W : World} (hM : M = ts.length) (hL : L = gs.length) (hN : N = ps.length) (h1 : M ≤ 1000) (h2 : L ≤ 1000) (h3 : N ≤ 1000) (hLim : Lim W) (hu : KG lk ht rc M ts L gs u W) (hv : KT h lv N ps v W) :
    Calls Tryz.prog 32 #[u, v] W (KP (K2 (KV (.int .i64 ((relR lk ht rc ts gs h lv ps).1))) (KV (.int .i64 ((relR lk ht rc ts gs h lv ps).2)))) W) := by
  obtain ⟨A1, c1, A2, c2, rfl, hT, hG⟩ := hu
  obtain ⟨A3, c3, rfl, hP⟩ := hv
  unfold relR
  by_cases he : stErr lk ht rc ts gs h lv ps = 0
  · rw [if_pos he]
    have hS := stErr_zero he
    by_cases hf : fineF ht rc h 0 ts ps = true
    · rw [if_pos hf]
      have hlv : lv = (lv.toNat : Int) := by have := hS.lv.1; omega
      obtain ⟨k, rfl⟩ : ∃ k : Nat, lv = k := ⟨lv.toNat, hlv⟩
      rw [Int.toNat_natCast, ← hL]
      exact (Release_ok lk ht rc h k ts gs ps A1 A2 A3 M L N c1 c2 c3 W hM hL hN hLim hT hG hP h1 h2 h3 he (fine_good hS hf)).mono fun e W' ⟨h, hb⟩ => ⟨_, h, ⟨_, _, rfl, rfl, rfl⟩, hb⟩
    · rw [if_neg hf]
      exact (Release_unsafe lk ht rc h lv ts gs ps A1 A2 A3 M L N c1 c2 c3 W hM hL hN hLim hT hG hP h1 h2 h3 he (by simpa using hf)).mono fun e W' ⟨h, hb⟩ => ⟨_, h, ⟨_, _, rfl, rfl, rfl⟩, hb⟩
  · rw [if_neg he]
    exact (Release_bad lk ht rc h lv ts gs ps A1 A2 A3 M L N c1 c2 c3 W hM hL hN hLim hT hG hP h1 h2 h3 he).mono fun e W' ⟨h, hb⟩ => ⟨_, h, ⟨_, _, rfl, rfl, rfl⟩, hb⟩
def runR (lk ht rc : Int) (ts gs xs : List Int) : List Int := if runErr lk ht rc ts gs xs = 0 then outsK lk ht rc ts gs xs xs.length else []
def lvsR (lk ht rc : Int) (ts gs xs : List Int) : List Int := if runErr lk ht rc ts gs xs = 0 then lvsK lk ht rc ts gs xs xs.length else []
theorem cRun {lk ht rc : Int} {ts gs xs : List Int} {M L N N2 : Nat} {u v : Value} {W : World} (hM : M = ts.length) (hL : L = gs.length) (hN : N = xs.length) (h1 : M ≤ 1000) (h2 : L ≤ 1000) (h3 : N ≤ 5000) (hLim : Lim W) (hu : KG lk ht rc M ts L gs u W) (hv : KS N xs v W)
    (hN2 : N2 = (runR lk ht rc ts gs xs).length) :
    Calls Tryz.prog 25 #[u, v] W (KP (K2 (KS N2 (runR lk ht rc ts gs xs)) (KV (.int .i64 (runErr lk ht rc ts gs xs)))) W) := by
  obtain ⟨A1, c1, A2, c2, rfl, hT, hG⟩ := hu
  obtain ⟨A3, c3, rfl, hX⟩ := hv
  unfold runR at *
  by_cases he : runErr lk ht rc ts gs xs = 0
  · rw [if_pos he] at hN2 ⊢
    rw [he]
    have hz := runErr_zero he
    subst hM hL hN
    have e : N2 = xs.length := by rw [hN2]; exact outsK_len _ _ _ _ _ _ _
    subst e
    exact (run_ok lk ht rc ts gs xs A1 A2 A3 c1 c2 c3 W hLim (guard_valid hz.1) hT hG hX (sigErr_in hz.2) (by omega) (by omega) h3 he).mono fun e W' ⟨⟨B, d, h, hc⟩, hb⟩ => ⟨_, h, ⟨_, _, rfl, ⟨_, _, rfl, hc⟩, rfl⟩, hb⟩
  · rw [if_neg he] at hN2 ⊢
    subst hM hL hN hN2
    exact (Run_bad lk ht rc ts gs xs A1 A2 A3 c1 c2 c3 W hT hG hX (by omega) (by omega) h3 he).mono fun e W' ⟨h, hb⟩ => ⟨_, h, ⟨_, _, rfl, KS.nil _, rfl⟩, hb⟩
theorem cLevels {lk ht rc : Int} {ts gs xs : List Int} {M L N N2 : Nat} {u v : Value} {W : World} (hM : M = ts.length) (hL : L = gs.length) (hN : N = xs.length) (h1 : M ≤ 1000) (h2 : L ≤ 1000) (h3 : N ≤ 5000) (hLim : Lim W) (hu : KG lk ht rc M ts L gs u W) (hv : KS N xs v W)
    (hN2 : N2 = (lvsR lk ht rc ts gs xs).length) :
    Calls Tryz.prog 27 #[u, v] W (KP (K2 (KS N2 (lvsR lk ht rc ts gs xs)) (KV (.int .i64 (runErr lk ht rc ts gs xs)))) W) := by
  obtain ⟨A1, c1, A2, c2, rfl, hT, hG⟩ := hu
  obtain ⟨A3, c3, rfl, hX⟩ := hv
  unfold lvsR at *
  by_cases he : runErr lk ht rc ts gs xs = 0
  · rw [if_pos he] at hN2 ⊢
    rw [he]
    have hz := runErr_zero he
    subst hM hL hN
    have e : N2 = xs.length := by rw [hN2]; exact lvsK_len _ _ _ _ _ _ _
    subst e
    exact (levels_ok lk ht rc ts gs xs A1 A2 A3 c1 c2 c3 W hLim (guard_valid hz.1) hT hG hX (sigErr_in hz.2) (by omega) (by omega) h3 he).mono fun e W' ⟨⟨B, d, h, hc⟩, hb⟩ => ⟨_, h, ⟨_, _, rfl, ⟨_, _, rfl, hc⟩, rfl⟩, hb⟩
  · rw [if_neg he] at hN2 ⊢
    subst hM hL hN hN2
    exact (Levels_bad lk ht rc ts gs xs A1 A2 A3 c1 c2 c3 W hT hG hX (by omega) (by omega) h3 he).mono fun e W' ⟨h, hb⟩ => ⟨_, h, ⟨_, _, rfl, KS.nil _, rfl⟩, hb⟩
def pkHR (lk ht rc : Int) (ts gs xs : List Int) : Int := if runErr lk ht rc ts gs xs = 0 then pkH lk xs xs.length else 0
def pkXR (lk ht rc : Int) (ts gs xs : List Int) : Int := if runErr lk ht rc ts gs xs = 0 then pkX ts xs xs.length else 0
theorem cPeaks {lk ht rc : Int} {ts gs xs : List Int} {M L N : Nat} {u v : Value} {W : World} (hM : M = ts.length) (hL : L = gs.length) (hN : N = xs.length) (h1 : M ≤ 1000) (h2 : L ≤ 1000) (h3 : N ≤ 5000) (hu : KG lk ht rc M ts L gs u W) (hv : KS N xs v W) :
    Calls Tryz.prog 26 #[u, v] W (KP (K2 (KV (.agg #[(.int .i64 (pkHR lk ht rc ts gs xs)), (.int .i64 (pkXR lk ht rc ts gs xs))])) (KV (.int .i64 (runErr lk ht rc ts gs xs)))) W) := by
  obtain ⟨A1, c1, A2, c2, rfl, hT, hG⟩ := hu
  obtain ⟨A3, c3, rfl, hX⟩ := hv
  unfold pkHR pkXR
  subst hM hL hN
  by_cases he : runErr lk ht rc ts gs xs = 0
  · rw [if_pos he, if_pos he, he]
    have hz := runErr_zero he
    exact (peaks_ok lk ht rc ts gs xs A1 A2 A3 c1 c2 c3 W (guard_valid hz.1) hT hG hX (sigErr_in hz.2) (by omega) (by omega) h3 he).mono fun e W' ⟨h, hb⟩ => ⟨_, h, ⟨_, _, rfl, rfl, rfl⟩, hb⟩
  · rw [if_neg he, if_neg he]
    exact (Peaks_bad lk ht rc ts gs xs A1 A2 A3 c1 c2 c3 W hT hG hX (by omega) (by omega) h3 he).mono fun e W' ⟨h, hb⟩ => ⟨_, h, ⟨_, _, rfl, rfl, rfl⟩, hb⟩
def stdR (lk ht rc : Int) (ts gs : List Int) : Int := if guardErr lk ht rc ts gs = 0 then (stdF lk ht : Int) else 0
def quiR (lk ht rc : Int) (ts gs : List Int) : Int := if guardErr lk ht rc ts gs = 0 then quietF lk ht rc ts else 0
theorem cSteady {lk ht rc : Int} {ts gs : List Int} {M L : Nat} {u : Value} {W : World} (hM : M = ts.length) (hL : L = gs.length) (h1 : M ≤ 1000) (h2 : L ≤ 1000) (hu : KG lk ht rc M ts L gs u W) :
    Calls Tryz.prog 29 #[u] W (KP (K2 (KV (.int .i64 (stdR lk ht rc ts gs))) (KV (.int .i64 (guardErr lk ht rc ts gs)))) W) := by
  obtain ⟨A1, c1, A2, c2, rfl, hT, hG⟩ := hu
  exact (Steady_any lk ht rc ts gs A1 A2 M L c1 c2 W hM hL hT hG h1 h2).mono fun e W' ⟨h, hb⟩ => ⟨_, h, ⟨_, _, rfl, rfl, rfl⟩, hb⟩
theorem cQuiet {lk ht rc : Int} {ts gs : List Int} {M L : Nat} {u : Value} {W : World} (hM : M = ts.length) (hL : L = gs.length) (h1 : M ≤ 1000) (h2 : L ≤ 1000) (hu : KG lk ht rc M ts L gs u W) :
    Calls Tryz.prog 30 #[u] W (KP (K2 (KV (.int .i64 (quiR lk ht rc ts gs))) (KV (.int .i64 (guardErr lk ht rc ts gs)))) W) := by
  obtain ⟨A1, c1, A2, c2, rfl, hT, hG⟩ := hu
  exact (Quiet_any lk ht rc ts gs A1 A2 M L c1 c2 W hM hL hT hG h1 h2).mono fun e W' ⟨h, hb⟩ => ⟨_, h, ⟨_, _, rfl, rfl, rfl⟩, hb⟩
theorem cCool {lk ht rc a b : Int} {ts gs : List Int} {M L : Nat} {u : Value} {W : World} (hM : M = ts.length) (hL : L = gs.length) (h1 : M ≤ 1000) (h2 : L ≤ 1000) (hu : KG lk ht rc M ts L gs u W) :
    Calls Tryz.prog 31 #[u, (.int .i64 a), (.int .i64 b)] W (KP (K2 (KV (.int .i64 ((coolE lk ht rc ts gs a b).1))) (KV (.int .i64 ((coolE lk ht rc ts gs a b).2)))) W) := by
  obtain ⟨A1, c1, A2, c2, rfl, hT, hG⟩ := hu
  exact (Cool_any lk ht rc a b ts gs A1 A2 M L c1 c2 W hM hL hT hG h1 h2).mono fun e W' ⟨h, hb⟩ => ⟨_, h, ⟨_, _, rfl, rfl, rfl⟩, hb⟩
def enR (xs : List Int) : Int := if sigErr xs = 0 then enF xs else 0
theorem cEnergy {xs : List Int} {N : Nat} {v : Value} {W : World} (hN : N = xs.length) (h3 : N ≤ 5000) (hv : KS N xs v W) :
    Calls Tryz.prog 34 #[v] W (KP (K2 (KV (.int .i64 (enR xs))) (KV (.int .i64 (sigErr xs)))) W) := by
  obtain ⟨A3, c3, rfl, hX⟩ := hv
  subst hN
  exact (Energy_any xs A3 c3 W hX h3 (fun e => sigErr_in e)).mono fun e W' ⟨h, hb⟩ => ⟨_, h, ⟨_, _, rfl, rfl, rfl⟩, hb⟩
def loudR (lk ht rc : Int) (ts gs ls : List Int) (n : Int) : List Int := if loudErr lk ht rc ts gs ls n = 0 then (loudF lk ht rc ts gs ls n.toNat).getD [] else []
def loudE (lk ht rc : Int) (ts gs ls : List Int) (n : Int) : Int := if loudErr lk ht rc ts gs ls n = 0 then (if (loudF lk ht rc ts gs ls n.toNat).isSome then 0 else 24) else loudErr lk ht rc ts gs ls n
theorem loudErr_zero {lk ht rc n : Int} {ts gs ls : List Int} (e : loudErr lk ht rc ts gs ls n = 0) : guardErr lk ht rc ts gs = 0 ∧ (1 ≤ ls.length ∧ ls.length ≤ 6) ∧ ascErr ls (-2048) 2048 = 0 ∧ 0 ≤ n ∧ n ≤ 6 := by
  have h := firstOf_eq_zero.1 e
  have h1 := h (someErr ls.length 6) (by simp)
  have h2 := rangeErr_zero.1 (h (rangeErr n 0 6) (by simp))
  refine ⟨h _ (by simp), ?_, h (ascErr ls (-2048) 2048) (by simp), h2⟩
  unfold someErr at h1
  have h3 := firstOf_eq_zero.1 h1
  have h4 := h3 (if (ls.length : Int) = 0 then 12 else 0) (by simp)
  have h5 := h3 (if (6 : Int) < (ls.length : Int) then 5 else 0) (by simp)
  split at h4
  · omega
  · split at h5 <;> omega
theorem ascErr_in {l : List Int} {lo hi : Int} (e : ascErr l lo hi = 0) : ∀ x ∈ l, lo ≤ x ∧ x ≤ hi := by
  intro x hx
  obtain ⟨k, hk, rfl⟩ := List.mem_iff_getElem.1 hx
  have h1 := firstOf_eq_zero.1 e (ascAt l lo hi k) (List.mem_map.2 ⟨k, List.mem_range.2 hk, rfl⟩)
  have h2 := firstOf_eq_zero.1 h1 (rangeErr (l.getD k 0) lo hi) (by simp)
  have h3 := rangeErr_zero.1 h2
  rw [List.getD_eq_getElem?_getD, List.getElem?_eq_getElem hk] at h3
  exact h3
theorem cLoudest {lk ht rc n : Int} {ts gs ls : List Int} {M L N N2 : Nat} {u v : Value} {W : World} (hM : M = ts.length) (hL : L = gs.length) (hN : N = ls.length) (h1 : M ≤ 1000) (h2 : L ≤ 1000) (h3 : N ≤ 1000) (hLim : Lim W) (hu : KG lk ht rc M ts L gs u W) (hv : KS N ls v W)
    (hN2 : N2 = (loudR lk ht rc ts gs ls n).length) :
    Calls Tryz.prog 33 #[u, v, (.int .i64 n)] W (KP (K2 (KS N2 (loudR lk ht rc ts gs ls n)) (KV (.int .i64 (loudE lk ht rc ts gs ls n)))) W) := by
  obtain ⟨A1, c1, A2, c2, rfl, hT, hG⟩ := hu
  obtain ⟨A3, c3, rfl, hX⟩ := hv
  unfold loudR loudE at *
  by_cases he : loudErr lk ht rc ts gs ls n = 0
  · rw [if_pos he] at hN2 ⊢
    rw [if_pos he]
    obtain ⟨g1, g2, g3, g4, g5⟩ := loudErr_zero he
    obtain ⟨k, rfl⟩ : ∃ k : Nat, n = k := ⟨n.toNat, by omega⟩
    rw [Int.toNat_natCast] at hN2 ⊢
    subst hN2
    exact (Loudest_ok lk ht rc k ts gs ls A1 A2 A3 c1 c2 c3 M L N W hM hL hN hLim (guard_valid g1) hT hG hX (by omega) (by omega) (ascErr_in g3) he).mono fun e W' ⟨⟨B, d, h, hc⟩, hb⟩ => ⟨_, h, ⟨_, _, rfl, ⟨_, _, rfl, hc⟩, rfl⟩, hb⟩
  · rw [if_neg he] at hN2 ⊢
    rw [if_neg he]
    subst hN2
    exact (Loudest_bad lk ht rc n ts gs ls A1 A2 A3 c1 c2 c3 M L N W hM hL hN hT hG hX (by omega) (by omega) (by omega) he).mono fun e W' ⟨h, hb⟩ => ⟨_, h, ⟨_, _, rfl, KS.nil _, rfl⟩, hb⟩
def textR (lk ht rc : Int) (ts gs : List Int) : List UInt8 := if guardErr lk ht rc ts gs = 0 then textG lk ht rc ts gs else []
theorem cPrint {lk ht rc : Int} {ts gs : List Int} {M L : Nat} {u : Value} {W : World} (hM : M = ts.length) (hL : L = gs.length) (h1 : M ≤ 1000) (h2 : L ≤ 1000) (hTab : PTab W) (hu : KG lk ht rc M ts L gs u W) :
    Calls Tryz.prog 7 #[u] W (KP (K2 (KV (.string ⟨(textR lk ht rc ts gs).toArray⟩)) (KV (.int .i64 (guardErr lk ht rc ts gs)))) W) := by
  obtain ⟨A1, c1, A2, c2, rfl, hT, hG⟩ := hu
  unfold textR
  by_cases he : guardErr lk ht rc ts gs = 0
  · rw [if_pos he, he]
    exact (Print_ok lk ht rc ts gs A1 A2 M L c1 c2 W hM hL hTab hT hG h1 h2 he).mono fun e W' ⟨h, hb⟩ => ⟨_, h, ⟨_, _, rfl, rfl, rfl⟩, hb⟩
  · rw [if_neg he]
    exact (Print_bad lk ht rc ts gs A1 A2 M L c1 c2 W hM hL hT hG h1 h2 he).mono fun e W' ⟨h, hb⟩ => ⟨_, h, ⟨_, _, rfl, rfl, rfl⟩, hb⟩
end Go.Proofs.YtdeapbihbhoefaaGreatDoor
