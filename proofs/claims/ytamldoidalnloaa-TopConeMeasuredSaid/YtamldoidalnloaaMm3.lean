/- Part 3 of the texts of the claim: Tc3, Tc4, Tc5, CopyI, Tc6. -/
import Derived.Test.YtamldoidalnloaaMm2
import Derived.Lib.AppendZerosOnto
import Derived.Laws.CopyRow

/- Contracts of mapped[int,int] at the functions that the program hands to it. -/
namespace Go.Proofs.Ytamldoidalnloaa
open Go.RowKit
open Calm (bcell Blk)
theorem opposite_any (x : Int) (w : World) (hx : -2147483648 ≤ x ∧ x ≤ 2147483648) : Calls Try.prog 46 #[(.int .i64 x)] w fun r w' => r = .returned (.int .i64 (-x)) ∧ w = w' := by
  go_enter Try.func46, Try.ntmps46
  go_wp2
  go_ret
  exact ⟨by go_num, rfl⟩
/-- a quotient, rounded down. -/
theorem floor_any (x m : Int) (w : World) (hx : -4294967296 ≤ x ∧ x ≤ 4294967296) (hm : 1 ≤ m ∧ m ≤ 10000) : Calls Try.prog 35 #[(.int .i64 x), (.int .i64 m)] w fun r w' => r = .returned (.int .i64 (x / m)) ∧ w = w' := by
  have hm0 : ¬ m = 0 := by omega
  have h1 : x.tdiv m * m + x.tmod m = x := Int.tdiv_mul_add_tmod x m
  have h2 : x.tmod m < m := Int.tmod_lt_of_pos x (by omega)
  have h3 : -m < x.tmod m := by
    have := Int.tmod_lt_of_pos (-x) (show 0 < m by omega)
    rw [Int.neg_tmod] at this
    omega
  have HQB : Hid (-4294967296 ≤ x.tdiv m ∧ x.tdiv m ≤ 4294967296) := Lib.hid (by
    have a1 : (x.tdiv m).natAbs ≤ x.natAbs := Int.natAbs_tdiv_le_natAbs x m
    omega)
  have HA : Hid (x.tmod m < 0 → x / m = x.tdiv m - 1) := Lib.hid (fun h => by
    have e : x = (x.tdiv m - 1) * m + (x.tmod m + m) := by rw [Int.sub_mul]; omega
    conv => lhs; rw [e]
    rw [Int.add_comm, Int.add_mul_ediv_right _ _ hm0, Int.ediv_eq_zero_of_lt (by omega) (by omega)]; omega)
  have HB : Hid (0 ≤ x.tmod m → x / m = x.tdiv m) := Lib.hid (fun h => by
    have e : x = x.tdiv m * m + x.tmod m := by omega
    conv => lhs; rw [e]
    rw [Int.add_comm, Int.add_mul_ediv_right _ _ hm0, Int.ediv_eq_zero_of_lt (by omega) (by omega)]; omega)
  obtain ⟨Z, hZ⟩ : ∃ Z, Z = x / m := ⟨_, rfl⟩
  rw [← hZ] at HA HB ⊢
  clear h1 h2 h3 hZ
  go_enter Try.func35, Try.ntmps35
  go_wp2
  · rename_i h0
    go_ret
    exact ⟨ret_i (by rw [HA.out h0]; exact Go.IntWalk.wrap64_in _ (by have := HQB.out; omega)), rfl⟩
  · rename_i h0
    go_ret
    exact ⟨ret_i (HB.out h0).symm, rfl⟩
theorem dec1_any (x m : Int) (b1 : Nat) (w : World) (hx : -2147483648 ≤ x ∧ x ≤ 2147483648) (hm : 1 ≤ m ∧ m ≤ 4096) (h1 : w.cell? ⟨b1, 0, none⟩ = some (.int .i64 m)) : Calls Try.prog 34 #[(.int .i64 x), .pointer (some ⟨b1, 0, none⟩)] w fun r w' => r = .returned (.int .i64 (x / (2 * m))) ∧ w = w' := by
  go_enter Try.func34, Try.ntmps34
  go_wp2_with (go_at_call 35; refine (floor_any _ _ _ (by omega) (by omega)).mono ?_; rintro r w1 ⟨rfl, rfl⟩)
  go_ret
  exact ⟨rfl, rfl⟩
theorem est1_any (x m : Int) (b1 : Nat) (w : World) (hx : -2147483648 ≤ x ∧ x ≤ 2147483648) (hm : 1 ≤ m ∧ m ≤ 4096) (h1 : w.cell? ⟨b1, 0, none⟩ = some (.int .i64 m)) : Calls Try.prog 66 #[(.int .i64 x), .pointer (some ⟨b1, 0, none⟩)] w fun r w' => r = .returned (.int .i64 ((x + m) / (2 * m))) ∧ w = w' := by
  go_enter Try.func66, Try.ntmps66
  go_wp2_with (go_at_call 35; refine (floor_any _ _ _ (by omega) (by omega)).mono ?_; rintro r w1 ⟨rfl, rfl⟩)
  go_ret
  exact ⟨rfl, rfl⟩
set_option maxHeartbeats 1000000 in
theorem mapOpp_any (A : Option Addr) (l : List Int) (c N : Nat)  (w : World) (hN : N = l.length) (hC : Cells w A l) (hn : N ≤ 5000) (hl : ∀ x ∈ l, -2147483648 ≤ x ∧ x ≤ 2147483648) :
    Calls Try.prog 45 #[.slice A N c, .func (.func 46) #[] #[]] w fun r w' =>
      (∃ B d, r = .returned (.slice B N d) ∧ Cells w' B (l.map fun x => -x) ∧ ∀ p, B = some p → w.heap.size ≤ p.block) ∧ Below w.heap.size w w' := by
  obtain ⟨i0, hii, hz0, hz1, hz2⟩ := info_parts Try.infoI
  have HC := Lib.hid hC
  have HN := Lib.hid hN
  have HLM := Lib.hid hl
  obtain ⟨f, hf⟩ : ∃ f : Int → Int, f = fun x => -x := ⟨_, rfl⟩
  have HF := Lib.hid hf
  have HCALL : Hid (∀ (x : Int) (W : World), x ∈ l → Calls Try.prog 46 #[(.int .i64 x)] W fun r w' => r = .returned (.int .i64 (f x)) ∧ W = w') := Lib.hid (fun x W hx => by rw [hf]; exact opposite_any x W (hl x hx))
  rw [← hf]
  have HLK : ∀ k, k ≤ N → ((l.take k).map f).length = k := fun k hk => by rw [List.length_map, List.length_take]; omega
  have HL := Lib.hid HLK
  clear HLK hN hC hf hl
  go_enter Try.func45, Try.ntmps45
  go_wp2
  go_loopw [5, 10] (fun v i wr => ∃ k : Nat, k ≤ N ∧ i = (.int .i64 ((k : Int))) ∧ wr.ownsRow w.heap.size 3 1 v ((l.take k).map f).length (((l.take k).map f).map (Value.int .i64)) ∧ Below w.heap.size w wr) (fun _ i _ => N - (intOf i).toNat)
  case atStart => exact ⟨0, Nat.zero_le _, rfl, World.ownsRow_nil _ _ _ _, Below.refl _ _⟩
  case round =>
    obtain ⟨k, hk, rfl, hown, hB⟩ := hrel
    have HO := Lib.hid hown
    have hle := Lib.hid (HL.out k hk)
    have hsz := hB.size
    clear hown
    by_cases hlt : k < N
    · obtain ⟨b, o, rfl, l1, k1⟩ := HC.out (by rw [← HN.out]; omega)
      have x1 := (hB.cell (p := ⟨b, o + k, none⟩) l1).trans (k1 k (by rw [← HN.out]; exact hlt))

      have hkl : k < l.length := by rw [← HN.out]; exact hlt
      have HS : Hid ((l.take (k + 1)).map f = (l.take k).map f ++ [f (l.getD k 0)]) := Lib.hid (by rw [List.take_succ_eq_append_getElem hkl, List.map_append, List.getD_eq_getElem?_getD, List.getElem?_eq_getElem hkl]; rfl)
      have HXM : Hid (l.getD k 0 ∈ l) := Lib.hid (by rw [List.getD_eq_getElem?_getD, List.getElem?_eq_getElem hkl]; exact List.getElem_mem hkl)
      obtain ⟨x, hx⟩ : ∃ x, x = l.getD k 0 := ⟨_, rfl⟩
      rw [← hx] at x1 HS HXM
      obtain ⟨y, hy⟩ : ∃ y, y = f x := ⟨_, rfl⟩
      rw [← hy] at HS
      have HCX := Lib.hid (fun W => HCALL.out x W HXM.out)
      rw [← hy] at HCX
      clear k1 hx hkl hy
      go_wp2_with (first
        | (go_at_call 46; refine (HCX.out _).mono ?_; rintro r w2 ⟨rfl, rfl⟩)
        | (at_builtin; refine wpList_append_own _ rfl _ _ 22 rfl w.heap.size 3 i0 (.int .i64 0) 1 8 Try.underlying22 hii hz0 hz1 hz2 rfl (by decide) _ _ _ rfl (HO.out.alloc _) ⟨wr.heap.size, 0, none⟩ 1 1 [.int .i64 y] rfl rfl ?c1 ?c2 ?c3 ?c4 ?c5 ?_))
      case c1 =>
        intro j u hj
        match j, hj with
        | 0, hj => simp at hj; subst hj; simp [Addr.add]
      case c2 => intro u hu; simp at hu; subst hu; rfl
      case c3 => have := hle.out; unfold maxLen; omega
      case c4 => have := hle.out; omega
      case c5 => simp; omega
      intro v' w1 hown' hgrow _
      have hB' : Below w.heap.size w w1 := (hB.alloc hsz _).grown hgrow (by simp; omega) (fun j hj => (HO.out.lt j hj).1)
      have HO' := Lib.hid hown'
      clear hgrow hown'
      go_wp2
      go_roundw
      case rel => exact ⟨k + 1, by omega, by go_num, by rw [HS.out]; simpa using HO'.out, hB'⟩
      case measure => simp [intOf]; omega
    · obtain rfl : k = N := by omega
      have hown := HO.out
      have e : l.take k = l := by rw [HN.out]; exact List.take_length
      rw [hle.out, e] at hown
      obtain ⟨B, d, rfl, hge, hr⟩ := own_ints hown (by simp [← HN.out])
      have HR := Lib.hid hr
      have HG := Lib.hid hge
      clear hown e hr hge
      go_wp2
      go_ret
      exact ⟨⟨B, d, rfl, HR.out, HG.out⟩, hB⟩

set_option maxHeartbeats 1000000 in
theorem mapDec_any (A : Option Addr) (l : List Int) (c N : Nat) (m : Int) (b1 : Nat) (w : World) (hN : N = l.length) (hC : Cells w A l) (hn : N ≤ 5000) (hb : b1 < w.heap.size) (h1 : w.cell? ⟨b1, 0, none⟩ = some (.int .i64 m)) (hm : 1 ≤ m ∧ m ≤ 4096) (hl : ∀ x ∈ l, -2147483648 ≤ x ∧ x ≤ 2147483648) :
    Calls Try.prog 33 #[.slice A N c, .func (.func 34) #[] #[.pointer (some ⟨b1, 0, none⟩)]] w fun r w' =>
      (∃ B d, r = .returned (.slice B N d) ∧ Cells w' B (l.map fun x => x / (2 * m)) ∧ ∀ p, B = some p → w.heap.size ≤ p.block) ∧ Below w.heap.size w w' := by
  obtain ⟨i0, hii, hz0, hz1, hz2⟩ := info_parts Try.infoI
  have HC := Lib.hid hC
  have HN := Lib.hid hN
  have HLM := Lib.hid hl
  obtain ⟨f, hf⟩ : ∃ f : Int → Int, f = fun x => x / (2 * m) := ⟨_, rfl⟩
  have HF := Lib.hid hf
  have HCALL : Hid (∀ (x : Int) (W : World), x ∈ l → W.cell? ⟨b1, 0, none⟩ = some (.int .i64 m) → Calls Try.prog 34 #[(.int .i64 x), .pointer (some ⟨b1, 0, none⟩)] W fun r w' => r = .returned (.int .i64 (f x)) ∧ W = w') := Lib.hid (fun x W hx hc => by rw [hf]; exact dec1_any x m b1 W (hl x hx) hm hc)
  rw [← hf]
  have HLK : ∀ k, k ≤ N → ((l.take k).map f).length = k := fun k hk => by rw [List.length_map, List.length_take]; omega
  have HL := Lib.hid HLK
  clear HLK hN hC hf hl
  go_enter Try.func33, Try.ntmps33
  go_wp2
  go_loopw [5, 10] (fun v i wr => ∃ k : Nat, k ≤ N ∧ i = (.int .i64 ((k : Int))) ∧ wr.ownsRow w.heap.size 3 1 v ((l.take k).map f).length (((l.take k).map f).map (Value.int .i64)) ∧ Below w.heap.size w wr) (fun _ i _ => N - (intOf i).toNat)
  case atStart => exact ⟨0, Nat.zero_le _, rfl, World.ownsRow_nil _ _ _ _, Below.refl _ _⟩
  case round =>
    obtain ⟨k, hk, rfl, hown, hB⟩ := hrel
    have HO := Lib.hid hown
    have hle := Lib.hid (HL.out k hk)
    have hsz := hB.size
    clear hown
    by_cases hlt : k < N
    · obtain ⟨b, o, rfl, l1, k1⟩ := HC.out (by rw [← HN.out]; omega)
      have x1 := (hB.cell (p := ⟨b, o + k, none⟩) l1).trans (k1 k (by rw [← HN.out]; exact hlt))
      have y1 := (hB.cell (p := ⟨b1, 0, none⟩) hb).trans h1
      have hkl : k < l.length := by rw [← HN.out]; exact hlt
      have HS : Hid ((l.take (k + 1)).map f = (l.take k).map f ++ [f (l.getD k 0)]) := Lib.hid (by rw [List.take_succ_eq_append_getElem hkl, List.map_append, List.getD_eq_getElem?_getD, List.getElem?_eq_getElem hkl]; rfl)
      have HXM : Hid (l.getD k 0 ∈ l) := Lib.hid (by rw [List.getD_eq_getElem?_getD, List.getElem?_eq_getElem hkl]; exact List.getElem_mem hkl)
      obtain ⟨x, hx⟩ : ∃ x, x = l.getD k 0 := ⟨_, rfl⟩
      rw [← hx] at x1 HS HXM
      obtain ⟨y, hy⟩ : ∃ y, y = f x := ⟨_, rfl⟩
      rw [← hy] at HS
      have HCX := Lib.hid (fun W => HCALL.out x W HXM.out)
      rw [← hy] at HCX
      clear k1 hx hkl hy
      go_wp2_with (first
        | (go_at_call 34; refine (HCX.out _ y1).mono ?_; rintro r w2 ⟨rfl, rfl⟩)
        | (at_builtin; refine wpList_append_own _ rfl _ _ 22 rfl w.heap.size 3 i0 (.int .i64 0) 1 8 Try.underlying22 hii hz0 hz1 hz2 rfl (by decide) _ _ _ rfl (HO.out.alloc _) ⟨wr.heap.size, 0, none⟩ 1 1 [.int .i64 y] rfl rfl ?c1 ?c2 ?c3 ?c4 ?c5 ?_))
      case c1 =>
        intro j u hj
        match j, hj with
        | 0, hj => simp at hj; subst hj; simp [Addr.add]
      case c2 => intro u hu; simp at hu; subst hu; rfl
      case c3 => have := hle.out; unfold maxLen; omega
      case c4 => have := hle.out; omega
      case c5 => simp; omega
      intro v' w1 hown' hgrow _
      have hB' : Below w.heap.size w w1 := (hB.alloc hsz _).grown hgrow (by simp; omega) (fun j hj => (HO.out.lt j hj).1)
      have HO' := Lib.hid hown'
      clear hgrow hown'
      go_wp2
      go_roundw
      case rel => exact ⟨k + 1, by omega, by go_num, by rw [HS.out]; simpa using HO'.out, hB'⟩
      case measure => simp [intOf]; omega
    · obtain rfl : k = N := by omega
      have hown := HO.out
      have e : l.take k = l := by rw [HN.out]; exact List.take_length
      rw [hle.out, e] at hown
      obtain ⟨B, d, rfl, hge, hr⟩ := own_ints hown (by simp [← HN.out])
      have HR := Lib.hid hr
      have HG := Lib.hid hge
      clear hown e hr hge
      go_wp2
      go_ret
      exact ⟨⟨B, d, rfl, HR.out, HG.out⟩, hB⟩

set_option maxHeartbeats 1000000 in
theorem mapEst_any (A : Option Addr) (l : List Int) (c N : Nat) (m : Int) (b1 : Nat) (w : World) (hN : N = l.length) (hC : Cells w A l) (hn : N ≤ 5000) (hb : b1 < w.heap.size) (h1 : w.cell? ⟨b1, 0, none⟩ = some (.int .i64 m)) (hm : 1 ≤ m ∧ m ≤ 4096) (hl : ∀ x ∈ l, -2147483648 ≤ x ∧ x ≤ 2147483648) :
    Calls Try.prog 33 #[.slice A N c, .func (.func 66) #[] #[.pointer (some ⟨b1, 0, none⟩)]] w fun r w' =>
      (∃ B d, r = .returned (.slice B N d) ∧ Cells w' B (l.map fun x => (x + m) / (2 * m)) ∧ ∀ p, B = some p → w.heap.size ≤ p.block) ∧ Below w.heap.size w w' := by
  obtain ⟨i0, hii, hz0, hz1, hz2⟩ := info_parts Try.infoI
  have HC := Lib.hid hC
  have HN := Lib.hid hN
  have HLM := Lib.hid hl
  obtain ⟨f, hf⟩ : ∃ f : Int → Int, f = fun x => (x + m) / (2 * m) := ⟨_, rfl⟩
  have HF := Lib.hid hf
  have HCALL : Hid (∀ (x : Int) (W : World), x ∈ l → W.cell? ⟨b1, 0, none⟩ = some (.int .i64 m) → Calls Try.prog 66 #[(.int .i64 x), .pointer (some ⟨b1, 0, none⟩)] W fun r w' => r = .returned (.int .i64 (f x)) ∧ W = w') := Lib.hid (fun x W hx hc => by rw [hf]; exact est1_any x m b1 W (hl x hx) hm hc)
  rw [← hf]
  have HLK : ∀ k, k ≤ N → ((l.take k).map f).length = k := fun k hk => by rw [List.length_map, List.length_take]; omega
  have HL := Lib.hid HLK
  clear HLK hN hC hf hl
  go_enter Try.func33, Try.ntmps33
  go_wp2
  go_loopw [5, 10] (fun v i wr => ∃ k : Nat, k ≤ N ∧ i = (.int .i64 ((k : Int))) ∧ wr.ownsRow w.heap.size 3 1 v ((l.take k).map f).length (((l.take k).map f).map (Value.int .i64)) ∧ Below w.heap.size w wr) (fun _ i _ => N - (intOf i).toNat)
  case atStart => exact ⟨0, Nat.zero_le _, rfl, World.ownsRow_nil _ _ _ _, Below.refl _ _⟩
  case round =>
    obtain ⟨k, hk, rfl, hown, hB⟩ := hrel
    have HO := Lib.hid hown
    have hle := Lib.hid (HL.out k hk)
    have hsz := hB.size
    clear hown
    by_cases hlt : k < N
    · obtain ⟨b, o, rfl, l1, k1⟩ := HC.out (by rw [← HN.out]; omega)
      have x1 := (hB.cell (p := ⟨b, o + k, none⟩) l1).trans (k1 k (by rw [← HN.out]; exact hlt))
      have y1 := (hB.cell (p := ⟨b1, 0, none⟩) hb).trans h1
      have hkl : k < l.length := by rw [← HN.out]; exact hlt
      have HS : Hid ((l.take (k + 1)).map f = (l.take k).map f ++ [f (l.getD k 0)]) := Lib.hid (by rw [List.take_succ_eq_append_getElem hkl, List.map_append, List.getD_eq_getElem?_getD, List.getElem?_eq_getElem hkl]; rfl)
      have HXM : Hid (l.getD k 0 ∈ l) := Lib.hid (by rw [List.getD_eq_getElem?_getD, List.getElem?_eq_getElem hkl]; exact List.getElem_mem hkl)
      obtain ⟨x, hx⟩ : ∃ x, x = l.getD k 0 := ⟨_, rfl⟩
      rw [← hx] at x1 HS HXM
      obtain ⟨y, hy⟩ : ∃ y, y = f x := ⟨_, rfl⟩
      rw [← hy] at HS
      have HCX := Lib.hid (fun W => HCALL.out x W HXM.out)
      rw [← hy] at HCX
      clear k1 hx hkl hy
      go_wp2_with (first
        | (go_at_call 66; refine (HCX.out _ y1).mono ?_; rintro r w2 ⟨rfl, rfl⟩)
        | (at_builtin; refine wpList_append_own _ rfl _ _ 22 rfl w.heap.size 3 i0 (.int .i64 0) 1 8 Try.underlying22 hii hz0 hz1 hz2 rfl (by decide) _ _ _ rfl (HO.out.alloc _) ⟨wr.heap.size, 0, none⟩ 1 1 [.int .i64 y] rfl rfl ?c1 ?c2 ?c3 ?c4 ?c5 ?_))
      case c1 =>
        intro j u hj
        match j, hj with
        | 0, hj => simp at hj; subst hj; simp [Addr.add]
      case c2 => intro u hu; simp at hu; subst hu; rfl
      case c3 => have := hle.out; unfold maxLen; omega
      case c4 => have := hle.out; omega
      case c5 => simp; omega
      intro v' w1 hown' hgrow _
      have hB' : Below w.heap.size w w1 := (hB.alloc hsz _).grown hgrow (by simp; omega) (fun j hj => (HO.out.lt j hj).1)
      have HO' := Lib.hid hown'
      clear hgrow hown'
      go_wp2
      go_roundw
      case rel => exact ⟨k + 1, by omega, by go_num, by rw [HS.out]; simpa using HO'.out, hB'⟩
      case measure => simp [intOf]; omega
    · obtain rfl : k = N := by omega
      have hown := HO.out
      have e : l.take k = l := by rw [HN.out]; exact List.take_length
      rw [hle.out, e] at hown
      obtain ⟨B, d, rfl, hge, hr⟩ := own_ints hown (by simp [← HN.out])
      have HR := Lib.hid hr
      have HG := Lib.hid hge
      clear hown e hr hge
      go_wp2
      go_ret
      exact ⟨⟨B, d, rfl, HR.out, HG.out⟩, hB⟩

end Go.Proofs.Ytamldoidalnloaa

/- slices.Grow onto nothing, and slices.Concat of two slices of integers. -/
namespace Go.Proofs.Ytamldoidalnloaa
open Go.RowKit
open Calm (bcell Blk)
/-- a row of one's own: append of a slice of integers. -/
theorem run_append_none {P : Program} (W : World) (t ty e : TypeId) (i : TypeInfo) (z : Value) (ht : P.underlying t = some (.slice e)) (hi : P.info? e = some i) (hz : i.zero = some z) (B A : Option Addr) (n d c : Nat) (hnd : n ≤ d) (hd : d ≤ 9223372036854775807) (hB : B = none → d = 0) :
    (Builtin.append_ #[t, t] ty #[.slice B n d, .slice A 0 c]).run P W = .ok (.slice B n d) W := by
  have hl : ∀ (x : Addr), (loadCells x 0).run P W = .ok #[] W := fun x => by simpa using run_loadCells_list (P := P) W x [] (by simp)
  have h1 : ¬ (9223372036854775807 < (n : Int)) := by omega
  cases B with
  | none =>
    obtain rfl := hB rfl
    obtain rfl : n = 0 := by omega
    cases A <;> simp [Builtin.append_, run_underlying ht, sizeOf, typeInfo, zeroValue, hi, hz, Builtin.lenOf, Builtin.firstCells, storeCells, hl]
  | some b =>
    cases A <;> simp [Builtin.append_, run_underlying ht, sizeOf, typeInfo, zeroValue, hi, hz, Builtin.lenOf, Builtin.firstCells, storeCells, hl, hnd, h1]
theorem wpList_appS {w : World} {ops : Array Oper} {rest : List Oper} {o : Oper} {a : Act} {Q : Exit → Act → World → Prop} (hgd : o.guard = none) (s x : Operand)
    (ho : o.op = .call { callee := .builtin .append, args := #[s, x], argTypes := #[22, 22] }) (base : Nat) (u : Value) (xs : List Int) (hs : a.eval s = u) (hown : w.ownsRow base 3 1 u xs.length (xs.map (Value.int .i64))) (A : Option Addr) (m c : Nat) (ys : List Int) (hm : m = ys.length)
    (hx : a.eval x = .slice A m c) (hc : Cells w A ys) (h5 : xs.length + m ≤ 100000) (hb : base ≤ w.heap.size)
    (h : ∀ v' w', w'.ownsRow base 3 1 v' (xs ++ ys).length ((xs ++ ys).map (Value.int .i64)) → w.grownBy w' u.ownBlock → wpList Try.prog ops Q rest (a.put o.dst v') w') : wpList Try.prog ops Q (o :: rest) a w := by
  obtain ⟨i0, hi, hz0, hz1, hz2⟩ := info_parts Try.infoI
  rcases Nat.eq_zero_or_pos m with h0 | h0
  · subst h0
    obtain rfl : ys = [] := List.eq_nil_of_length_eq_zero hm.symm
    refine wpList_plain hgd fun K hK => ?_
    have hu : ∃ B d, u = .slice B xs.length d ∧ xs.length ≤ d ∧ d ≤ 9223372036854775807 ∧ (B = none → d = 0) := by
      rcases hown.2 with ⟨h1, h2⟩ | ⟨g, cap, cur, h1, _, _, h4, h5', _⟩
      · exact ⟨none, 0, by rw [h1, h2], by omega, by omega, fun _ => rfl⟩
      · exact ⟨_, cap, h1, h4, by simp only [maxLen] at h5'; omega, fun h => by cases h⟩
    obtain ⟨B, d, rfl, h1, h2, h3⟩ := hu
    have hrun := run_append_none (P := Try.prog) w 22 o.type 3 i0 _ Try.underlying22 hi hz0 B A xs.length d c h1 h2 h3
    unfold Oper.wp
    simp [execOp, ho, resolve, invoke, builtin, hs, hx, hrun, Result.andThen]
    exact hK _ _ (h _ w (by simpa using hown) (World.grownBy.refl _ _))
  · obtain ⟨b, off, rfl, hbl, hcc⟩ := hc (by omega)
    refine wpList_append_own w hgd s x 22 ho base 3 i0 _ 1 8 Try.underlying22 hi hz0 hz1 hz2 rfl (by decide) u xs.length _ hs hown ⟨b, off, none⟩ m c (ys.map (Value.int .i64)) hx (by simp; omega) (fun j v hj => cells_src hcc j v hj) (fun u hu => by obtain ⟨z, _, rfl⟩ := List.mem_map.1 hu; rfl) (by unfold maxLen; omega) (by omega) hb ?_
    intro v' w' k1 k2 _
    exact h v' w' (by rw [List.length_append, List.map_append, ← hm]; exact k1) k2
theorem wpList_appZ {w : World} {ops : Array Oper} {rest : List Oper} {o : Oper} {a : Act} {Q : Exit → Act → World → Prop} (hgd : o.guard = none) (s x : Operand)
    (ho : o.op = .call { callee := .builtin .append, args := #[s, x], argTypes := #[22, 3] }) (n : Nat) (h0 : 0 < n) (hn : n ≤ 100000) (hs : a.eval s = .slice none 0 0) (hx : a.eval x = (.int .i64 ((n : Int))))
    (h : ∀ G cur, n ≤ G → G ≤ maxLen → cur.size = G → wpList Try.prog ops Q rest (a.put o.dst (.slice (some ⟨w.heap.size, 0, none⟩) n G)) (w.drew.alloc (.cells cur 3))) : wpList Try.prog ops Q (o :: rest) a w := by
  obtain ⟨i0, hi, hz0, hz1, hz2⟩ := info_parts Try.infoI
  have hcap := grownCap_ge w n 0 3
  have hmx := grownCap_le_maxLen w n 0 3 (by unfold maxLen; omega)
  have hrun := Lib.run_append_nil_zeros (P := Try.prog) w 22 3 o.type 3 i0 _ .i64 .i64 Try.underlying22 Try.underlying3 hi hz0 n h0 (by rw [hz1]; decide) (by omega) (by rw [hz2]; omega)
  obtain ⟨G, hG⟩ : ∃ G, G = grownCap w n 0 3 := ⟨_, rfl⟩
  rw [← hG] at hrun hcap hmx
  obtain ⟨cur, hcur⟩ : ∃ cur, cur = Builtin.zeroCells (Value.cells (.int .i64 0)) n ++ Builtin.zeroCells (Value.cells (.int .i64 0)) (G - n) := ⟨_, rfl⟩
  have hsz : cur.size = G := by
    have hz : ∀ k, (Builtin.zeroCells (Value.cells (.int .i64 0)) k).size = k := fun k => by simp [Builtin.zeroCells, Value.cells]
    rw [hcur, Array.size_append, hz, hz]; omega
  rw [← hcur] at hrun
  refine wpList_plain hgd fun K hK => ?_
  unfold Oper.wp
  simp [execOp, ho, resolve, invoke, builtin, hs, hx, hrun, Result.andThen]
  exact hK _ _ (h G cur hcap hmx hsz)
set_option maxHeartbeats 1000000 in
theorem grow_any (n : Nat) (w : World) (hn : n ≤ 100000) : Calls Try.prog 80 #[.slice none 0 0, (.int .i64 ((n : Int)))] w fun r w' => ∃ v, r = .returned v ∧ w'.ownsRow w.heap.size 3 1 v 0 [] ∧ Below w.heap.size w w' := by
  rcases Nat.eq_zero_or_pos n with h0 | h0
  · subst h0
    go_enter Try.func80, Try.ntmps80
    go_wp2
    go_ret
    exact ⟨_, rfl, World.ownsRow_nil _ _ _ _, Below.refl _ _⟩
  · have h1 : ¬ (n : Int) < 0 := by omega
    have h2 : 0 < (n : Int) := by omega
    go_enter Try.func80, Try.ntmps80
    go_wp2_with (at_builtin; refine wpList_appZ rfl _ _ rfl n h0 hn rfl rfl ?_)
    intro G cur q1 q2 q3
    have q4 : (0 : Int) ≤ (G : Int) := by omega
    go_wp2
    go_ret
    refine ⟨_, rfl, ⟨rfl, .inr ⟨w.heap.size, G, cur, rfl, Nat.le_refl _, heap_new (w := w.drew) rfl, by omega, q2, by omega, by simp⟩⟩, by (repeat (first | (with_reducible exact Below.refl _ _) | ((with_reducible refine Below.setCell ?_ ?_ _); rotate_left 1; focus (first | (simp; done) | (simp; omega) | (simp at *; omega))) | ((with_reducible refine Below.alloc ?_ ?_ _); rotate_left 1; focus (first | (simp; done) | (simp; omega) | (simp at *; omega))) | (with_reducible refine Below.drew ?_) | ((with_reducible refine Calm.step (by assumption) ?_ ?_); rotate_left 1; focus (first | (simp; done) | (simp; omega) | (simp at *; omega)))))⟩
def totC (n1 n2 : Nat) : Nat → Nat
  | 0 => 0
  | 1 => n1
  | _ => n1 + n2
def preC (xs ys : List Int) : Nat → List Int
  | 0 => []
  | 1 => xs
  | _ => xs ++ ys
set_option maxRecDepth 100000 in
set_option maxHeartbeats 4000000 in
theorem concat_any (xs ys : List Int) (A1 A2 : Option Addr) (n1 n2 c1 c2 b : Nat) (w : World) (hn1 : n1 = xs.length) (hn2 : n2 = ys.length) (hK : Blk w b #[.slice A1 n1 c1, .slice A2 n2 c2]) (hX : Cells w A1 xs) (hY : Cells w A2 ys) (h1 : n1 ≤ 5000) (h2 : n2 ≤ 5000) :
    Calls Try.prog 44 #[.slice (some ⟨b, 0, none⟩) 2 2] w fun r w' => (∃ B d, r = .returned (.slice B (n1 + n2) d) ∧ Cells w' B (xs ++ ys) ∧ ∀ p, B = some p → w.heap.size ≤ p.block) ∧ Below w.heap.size w w' := by
  have HK := Lib.hid hK
  have HX := Lib.hid hX
  have HY := Lib.hid hY
  have HN1 := Lib.hid hn1
  have HN2 := Lib.hid hn2
  obtain ⟨f0, f1, fl, ff⟩ := hK.o2
  clear hK hX hY hn1 hn2
  go_enter Try.func44, Try.ntmps44
  go_wp2
  go_loop [3, 11] (fun s i => ∃ k : Nat, k ≤ 2 ∧ i = (.int .i64 ((k : Int))) ∧ s = (.int .i64 (((totC n1 n2 k : Nat) : Int)))) (fun _ i => 2 - (intOf i).toNat)
  case atStart => exact ⟨0, by omega, rfl, rfl⟩
  case round =>
    obtain ⟨k, hk, rfl, rfl⟩ := hrel
    rcases (by omega : k = 0 ∨ k = 1 ∨ k = 2) with rfl | rfl | rfl
    · have e : ((totC n1 n2 0 : Nat) : Int) = 0 := rfl
      have q : ¬ (n1 : Int) < 0 := by omega
      rw [e]
      go_wp2
      go_round
      case rel => exact ⟨1, by omega, by go_num, by simp [totC]⟩
      case measure => simp [intOf]
    · have e : ((totC n1 n2 1 : Nat) : Int) = (n1 : Int) := rfl
      have q : ¬ (n1 : Int) + (n2 : Int) < 0 := by omega
      rw [e]
      go_wp2
      go_round
      case rel => exact ⟨2, by omega, by go_num, by simp [totC]⟩
      case measure => simp [intOf]
    · have e : ((totC n1 n2 2 : Nat) : Int) = ((n1 + n2 : Nat) : Int) := rfl
      rw [e]
      clear e
      go_wp2_with (go_at_call 80; refine (grow_any (n1 + n2) _ (by omega)).mono ?_; rintro r w1 ⟨v, rfl, ho, hb⟩; refine Hid.out ?_)
      unfold Hid
      have HO := Lib.hid ho
      have HB := Lib.hid hb
      have hsz := hb.size
      clear ho hb f0 f1 fl ff
      go_wp2
      go_loopw [6, 27] (fun v i wr => ∃ k : Nat, k ≤ 2 ∧ i = (.int .i64 ((k : Int))) ∧ wr.ownsRow w.heap.size 3 1 v (preC xs ys k).length ((preC xs ys k).map (Value.int .i64)) ∧ Below w.heap.size w wr) (fun _ i _ => 2 - (intOf i).toNat)
      case atStart => exact ⟨0, by omega, rfl, HO.out, HB.out⟩
      case round =>
        obtain ⟨k, hk, rfl, ho, hb⟩ := hrel
        have HO2 := Lib.hid ho
        have HB2 := Lib.hid hb
        have hsz2 := hb.size
        obtain ⟨f0, f1, fl, ff⟩ := (HK.out.below hb).o2
        rcases (by omega : k = 0 ∨ k = 1 ∨ k = 2) with rfl | rfl | rfl
        · clear ho hb
          go_wp2_with (at_builtin; refine wpList_appS rfl _ _ rfl w.heap.size _ [] rfl HO2.out A1 n1 c1 xs HN1.out rfl (HX.out.below HB2.out) (by simp; omega) hsz2 ?_)
          intro v' w' hown hgrow
          have HB3 := Lib.hid (HB2.out.grown hgrow hsz2 (fun j hj => (HO2.out.lt j hj).1))
          have HO3 := Lib.hid hown
          clear hown hgrow f0 f1 fl ff
          go_wp2
          go_roundw
          case rel => exact ⟨1, by omega, by go_num, HO3.out, HB3.out⟩
          case measure => simp [intOf]
        · clear ho hb
          go_wp2_with (at_builtin; refine wpList_appS rfl _ _ rfl w.heap.size _ xs rfl HO2.out A2 n2 c2 ys HN2.out rfl (HY.out.below HB2.out) (by have := HN1.out; omega) hsz2 ?_)
          intro v' w' hown hgrow
          have HB3 := Lib.hid (HB2.out.grown hgrow hsz2 (fun j hj => (HO2.out.lt j hj).1))
          have HO3 := Lib.hid hown
          clear hown hgrow f0 f1 fl ff
          go_wp2
          go_roundw
          case rel => exact ⟨2, by omega, by go_num, by simpa [preC] using HO3.out, HB3.out⟩
          case measure => simp [intOf]
        · have hl : (preC xs ys 2).length = n1 + n2 := by rw [HN1.out, HN2.out]; exact List.length_append
          rw [hl] at ho
          obtain ⟨B, d, rfl, hge, hr⟩ := own_ints (zs := xs ++ ys) ho (by rw [HN1.out, HN2.out, List.length_append])
          have HR := Lib.hid hr
          have HG := Lib.hid hge
          clear ho hb hr hge hl f0 f1 fl ff
          go_wp2
          go_ret
          exact ⟨⟨B, d, rfl, HR.out, HG.out⟩, HB2.out⟩
end Go.Proofs.Ytamldoidalnloaa

/- Complementary pairs: the program's Pair. -/
namespace Go.Proofs.Ytamldoidalnloaa
open Go.RowKit
open Calm (bcell Blk)
/-- both sequences of the pair of a length. -/
def gol : Nat → List Int × List Int
  | 0 => ([1], [1])
  | e + 1 => ((gol e).1 ++ (gol e).2, (gol e).1 ++ (gol e).2.map (fun x => -x))
theorem gol_len : ∀ e, (gol e).1.length = 2 ^ e ∧ (gol e).2.length = 2 ^ e
  | 0 => ⟨rfl, rfl⟩
  | e + 1 => by
    obtain ⟨h1, h2⟩ := gol_len e
    refine ⟨?_, ?_⟩ <;> (simp only [gol, List.length_append, List.length_map, h1, h2, Nat.pow_succ]; omega)
theorem gol_pm : ∀ e, (∀ x ∈ (gol e).1, x = 1 ∨ x = -1) ∧ (∀ x ∈ (gol e).2, x = 1 ∨ x = -1)
  | 0 => ⟨by simp [gol], by simp [gol]⟩
  | e + 1 => by
    obtain ⟨h1, h2⟩ := gol_pm e
    refine ⟨fun x hx => ?_, fun x hx => ?_⟩
    · simp only [gol, List.mem_append] at hx
      exact hx.elim (h1 x) (h2 x)
    · simp only [gol, List.mem_append, List.mem_map] at hx
      rcases hx with hx | ⟨y, hy, rfl⟩
      · exact h1 x hx
      · have := h2 y hy; omega
theorem pow_le_64 {e : Nat} (h : e ≤ 6) : 1 ≤ 2 ^ e ∧ 2 ^ e ≤ 64 := ⟨Nat.one_le_two_pow, Nat.le_trans (Nat.pow_le_pow_right (by decide) h) (by decide)⟩
theorem Cells.blk {W : World} {g : Nat} {cs : Array Value} {zs : List Int} (h : Blk W g cs) (e : cs = (zs.map (Value.int .i64)).toArray) : Cells W (some ⟨g, 0, none⟩) zs := fun h0 =>
  ⟨g, 0, rfl, h.lt, fun k hk => by
    rw [Nat.zero_add, h.c, e]
    simp [hk, List.getD_eq_getElem?_getD, List.getElem?_eq_getElem hk]⟩
/-- a slice of integers that lies in no older block. -/
def FS (b : Nat) (l : List Int) (v : Value) (W : World) : Prop := ∃ B c, v = .slice B l.length c ∧ Cells W B l ∧ ∀ p, B = some p → b ≤ p.block
set_option maxRecDepth 100000 in
set_option maxHeartbeats 4000000 in
theorem pair_any (e : Nat) (he : e ≤ 6) (w : World) : Calls Try.prog 14 #[(.int .i64 (((2 ^ e : Nat) : Int)))] w fun r w' => ∃ u v, r = .returned (.tuple #[u, v, (.int .i64 0)]) ∧ FS w.heap.size (gol e).1 u w' ∧ FS w.heap.size (gol e).2 v w' ∧ Below w.heap.size w w' := by
  obtain ⟨n, hn⟩ : ∃ n, n = 2 ^ e := ⟨_, rfl⟩
  have hn64 := pow_le_64 he
  rw [← hn] at hn64 ⊢
  have HE := Lib.hid hn
  clear hn
  go_enter Try.func14, Try.ntmps14
  go_wp2
  refine name_world ?_
  intro w0 e0
  have HB0 := Lib.hid (show Below w.heap.size w w0 by rw [e0]; (repeat (first | (with_reducible exact Below.refl _ _) | ((with_reducible refine Below.setCell ?_ ?_ _); rotate_left 1; focus (first | (simp; done) | (simp; omega) | (simp at *; omega))) | ((with_reducible refine Below.alloc ?_ ?_ _); rotate_left 1; focus (first | (simp; done) | (simp; omega) | (simp at *; omega))) | (with_reducible refine Below.drew ?_) | ((with_reducible refine Calm.step (by assumption) ?_ ?_); rotate_left 1; focus (first | (simp; done) | (simp; omega) | (simp at *; omega))))))
  have KA : Blk w0 w.heap.size #[(.int .i64 1)] := by rw [e0]; (repeat (first | ((with_reducible refine Blk.at_ ?_); focus (first | rfl | (simp; done) | (simp; omega))) | (with_reducible refine Blk.alloc ?_ _) | (with_reducible refine Blk.below ?_ (by with_reducible assumption)) | (with_reducible refine Blk.drew ?_)))
  have KB : Blk w0 (w.heap.size + 1) #[(.int .i64 1)] := by rw [e0]; (repeat (first | ((with_reducible refine Blk.at_ ?_); focus (first | rfl | (simp; done) | (simp; omega))) | (with_reducible refine Blk.alloc ?_ _) | (with_reducible refine Blk.below ?_ (by with_reducible assumption)) | (with_reducible refine Blk.drew ?_)))
  have KA := Lib.hid KA
  have KB := Lib.hid KB
  clear e0
  go_loopw [5, 6, 9] (fun a b i wr => ∃ k : Nat, k ≤ e ∧ i = (.int .i64 ((k : Int))) ∧ FS w.heap.size (gol k).1 a wr ∧ FS w.heap.size (gol k).2 b wr ∧ Below w.heap.size w wr) (fun _ _ i _ => 7 - (intOf i).toNat)
  case atStart => exact ⟨0, Nat.zero_le _, rfl, ⟨_, _, rfl, Cells.blk KA.out rfl, by rintro p ⟨⟩; exact Nat.le_refl _⟩, ⟨_, _, rfl, Cells.blk KB.out rfl, by rintro p ⟨⟩; exact Nat.le_succ _⟩, HB0.out⟩
  case round =>
    obtain ⟨k, hk, rfl, ⟨A, c, rfl, hA, hfA⟩, ⟨B, d, rfl, hB, hfB⟩, hb⟩ := hrel
    obtain ⟨g1, g2⟩ := gol_len k
    obtain ⟨m1, m2⟩ := gol_pm k
    have hk64 := pow_le_64 (show k ≤ 6 by omega)
    obtain ⟨N, hN⟩ : ∃ N, N = 2 ^ k := ⟨_, rfl⟩
    rw [← hN] at g1 g2 hk64
    have HCA := Lib.hid hA
    have HCB := Lib.hid hB
    have HFA := Lib.hid hfA
    have HFB := Lib.hid hfB
    have HBR := Lib.hid hb
    have hsz := hb.size
    rw [g1, g2]
    have G1 := Lib.hid g1
    have G2 := Lib.hid g2
    have M2 := Lib.hid m2
    clear hA hB hfA hfB hb g1 g2 m1 m2
    by_cases hke : k = e
    · subst hke
      obtain rfl : N = n := by rw [hN, HE.out]
      clear hN
      go_wp2
      refine bodyPost_ret (v := .tuple #[.slice A N c, .slice B N d, (.int .i64 0)]) (by simp [results, Try.results14, go_sem]) rfl ⟨_, _, rfl, ⟨A, c, by rw [G1.out], HCA.out, HFA.out⟩, ⟨B, d, by rw [G2.out], HCB.out, HFB.out⟩, HBR.out⟩
    · have hne : ¬ N = n := fun h => by have := Nat.pow_lt_pow_right (a := 2) (by decide) (show k < e by omega); rw [← hN, h, HE.out] at this; omega
      have hne1 : ((N : Int) == (n : Int)) = false := beq_eq_false_iff_ne.2 (by omega)
      have hk7 : (k : Int) < 7 := by omega
      clear hN
      go_wp2_with (go_at_call 44; refine name_calls ?_; intro w1 e1; refine Hid.out ?_)
      unfold Hid
      have h1 : Below wr.heap.size wr w1 := by rw [e1]; (repeat (first | (with_reducible exact Below.refl _ _) | ((with_reducible refine Below.setCell ?_ ?_ _); rotate_left 1; focus (first | (simp; done) | (simp; omega) | (simp at *; omega))) | ((with_reducible refine Below.alloc ?_ ?_ _); rotate_left 1; focus (first | (simp; done) | (simp; omega) | (simp at *; omega))) | (with_reducible refine Below.drew ?_) | ((with_reducible refine Calm.step (by assumption) ?_ ?_); rotate_left 1; focus (first | (simp; done) | (simp; omega) | (simp at *; omega)))))
      have K1 : Blk w1 wr.heap.size #[.slice A N c, .slice B N d] := by rw [e1]; (repeat (first | ((with_reducible refine Blk.at_ ?_); focus (first | rfl | (simp; done) | (simp; omega))) | (with_reducible refine Blk.alloc ?_ _) | (with_reducible refine Blk.below ?_ (by with_reducible assumption)) | (with_reducible refine Blk.drew ?_)))
      have HB1 := Lib.hid (HBR.out.trans (h1.mono hsz))
      have HCA1 := Lib.hid (HCA.out.below h1)
      have HCB1 := Lib.hid (HCB.out.below h1)
      refine (concat_any (gol k).1 (gol k).2 A B N N c d wr.heap.size w1 G1.out.symm G2.out.symm K1 HCA1.out HCB1.out (by omega) (by omega)).mono ?_
      rintro r w2 ⟨⟨X, x, rfl, hX, hfX⟩, h2⟩
      have HX := Lib.hid hX
      have HFX : Hid (∀ p, X = some p → w.heap.size ≤ p.block) := Lib.hid (fun p hp => by have := hfX p hp; have := HB1.out.size; omega)
      have HB2 := Lib.hid (HB1.out.trans (h2.mono HB1.out.size))
      have HCA2 := Lib.hid (HCA1.out.below h2)
      have HCB2 := Lib.hid (HCB1.out.below h2)
      clear e1 h1 K1 h2 hX hfX
      go_wp2_with (go_at_call 45; refine name_calls ?_; intro w3 e3; refine Hid.out ?_)
      unfold Hid
      have h3 : Below w2.heap.size w2 w3 := by rw [e3]; (repeat (first | (with_reducible exact Below.refl _ _) | ((with_reducible refine Below.setCell ?_ ?_ _); rotate_left 1; focus (first | (simp; done) | (simp; omega) | (simp at *; omega))) | ((with_reducible refine Below.alloc ?_ ?_ _); rotate_left 1; focus (first | (simp; done) | (simp; omega) | (simp at *; omega))) | (with_reducible refine Below.drew ?_) | ((with_reducible refine Calm.step (by assumption) ?_ ?_); rotate_left 1; focus (first | (simp; done) | (simp; omega) | (simp at *; omega)))))
      have HB3 := Lib.hid (HB2.out.trans (h3.mono HB2.out.size))
      have HX3 := Lib.hid (HX.out.below h3)
      have HCA3 := Lib.hid (HCA2.out.below h3)
      have HCB3 := Lib.hid (HCB2.out.below h3)
      clear e3 h3
      refine (mapOpp_any B (gol k).2 d N w3 G2.out.symm HCB3.out (by omega) (fun x hx => by have := M2.out x hx; omega)).mono ?_
      rintro r w4 ⟨⟨Y, y, rfl, hY, hfY⟩, h4⟩
      have HY := Lib.hid hY
      have HB4 := Lib.hid (HB3.out.trans (h4.mono HB3.out.size))
      have HX4 := Lib.hid (HX3.out.below h4)
      have HCA4 := Lib.hid (HCA3.out.below h4)
      clear h4 hY hfY
      go_wp2_with (go_at_call 44; refine name_calls ?_; intro w5 e5; refine Hid.out ?_)
      unfold Hid
      have h5 : Below w4.heap.size w4 w5 := by rw [e5]; (repeat (first | (with_reducible exact Below.refl _ _) | ((with_reducible refine Below.setCell ?_ ?_ _); rotate_left 1; focus (first | (simp; done) | (simp; omega) | (simp at *; omega))) | ((with_reducible refine Below.alloc ?_ ?_ _); rotate_left 1; focus (first | (simp; done) | (simp; omega) | (simp at *; omega))) | (with_reducible refine Below.drew ?_) | ((with_reducible refine Calm.step (by assumption) ?_ ?_); rotate_left 1; focus (first | (simp; done) | (simp; omega) | (simp at *; omega)))))
      have K5 : Blk w5 w4.heap.size #[.slice A N c, .slice Y N y] := by rw [e5]; (repeat (first | ((with_reducible refine Blk.at_ ?_); focus (first | rfl | (simp; done) | (simp; omega))) | (with_reducible refine Blk.alloc ?_ _) | (with_reducible refine Blk.below ?_ (by with_reducible assumption)) | (with_reducible refine Blk.drew ?_)))
      have HB5 := Lib.hid (HB4.out.trans (h5.mono HB4.out.size))
      have HX5 := Lib.hid (HX4.out.below h5)
      have HCA5 := Lib.hid (HCA4.out.below h5)
      have HY5 := Lib.hid (HY.out.below h5)
      have G3 : ((gol k).2.map fun x => -x).length = N := by rw [List.length_map]; exact G2.out
      refine (concat_any (gol k).1 ((gol k).2.map fun x => -x) A Y N N c y w4.heap.size w5 G1.out.symm G3.symm K5 HCA5.out HY5.out (by omega) (by omega)).mono ?_
      rintro r w6 ⟨⟨Z, z, rfl, hZ, hfZ⟩, h6⟩
      have HZ := Lib.hid hZ
      have HFZ : Hid (∀ p, Z = some p → w.heap.size ≤ p.block) := Lib.hid (fun p hp => by have := hfZ p hp; have := HB5.out.size; omega)
      have HB6 := Lib.hid (HB5.out.trans (h6.mono HB5.out.size))
      have HX6 := Lib.hid (HX5.out.below h6)
      have G4 := Lib.hid G3
      clear e5 h5 K5 h6 hZ hfZ G3
      go_wp2
      go_roundw
      case rel => exact ⟨k + 1, by omega, by go_num, ⟨X, x, by simp only [gol, List.length_append, G1.out, G2.out], HX6.out, HFX.out⟩, ⟨Z, z, by simp only [gol, List.length_append, G1.out]; rw [G4.out], HZ.out, HFZ.out⟩, HB6.out⟩
      case measure => simp [intOf]; omega
end Go.Proofs.Ytamldoidalnloaa

/- The law of copy between slices of integers, as contracts speak of them. -/
namespace Go.Proofs.Ytamldoidalnloaa
open Go.RowKit

theorem run_copyI {P : Program} (w : World) (dT sT ty elem : TypeId) (g : Nat) (A : Option Addr) (xs : List Int) (n cap c : Nat) (cur : Array Value) (t : TypeId)
    (hu : P.underlying dT = some (.slice elem)) (hs : (P.info? elem).map (·.size) = some 1) (hn : xs.length ≤ n)
    (hg : w.heap[g]? = some (.cells cur t (0, 0))) (hcur : cur.size = n) (hC : Cells w A xs) :
    (Builtin.copy_ #[dT, sT] ty #[.slice (some ⟨g, 0, none⟩) n cap, .slice A xs.length c]).run P w = .ok (goInt xs.length) (w.setRow g (xs.map (Value.int .i64) ++ cur.toList.drop xs.length).toArray) := by
  have hmin : Nat.min xs.length n = xs.length := Nat.min_eq_left hn
  cases A with
  | some a =>
    have := run_copy_row (P := P) w dT sT ty elem g 0 n cap a xs.length c cur t (xs.map (Value.int .i64)) hu hs hg (by rw [hmin]; simp) (fun j v hj => by
      have hj' : j < xs.length := by
        have := (List.getElem?_eq_some_iff.1 hj).1
        simpa using this
      obtain ⟨b, o, hA, hl, hc⟩ := hC (by omega)
      cases hA
      exact cells_src hc j v hj) (by simp; omega) (fun v hv => by obtain ⟨_, _, rfl⟩ := List.mem_map.1 hv; rfl)
    simpa using this
  | none =>
    have h0 : xs = [] := by
      cases xs with
      | nil => rfl
      | cons x xs => obtain ⟨b, o, hA, _⟩ := hC (by simp); cases hA
    subst h0
    have hself : w.setRow g cur = w := setRow_self w g cur t _ hg
    cases hq : P.info? elem with
    | none => simp [hq] at hs
    | some i => simp [Builtin.copy_, run_underlying hu, Builtin.lenOf, Builtin.firstCells, sizeOf, typeInfo, hq, storeCells, hself]
end Go.Proofs.Ytamldoidalnloaa

/- Convolutions: the program's convolved (package chamber). -/
namespace Go.Proofs.Ytamldoidalnloaa
open Go.RowKit
open Calm (bcell Blk)
/-- the element at t of a convolution, as far as the first i elements of the first sequence. -/
def cvAt (h p : List Int) (t : Nat) : Nat → Int
  | 0 => 0
  | i + 1 => cvAt h p t i + (if i ≤ t then h.getD i 0 * p.getD (t - i) 0 else 0)
def conv (h p : List Int) : List Int := if h.length = 0 ∨ p.length = 0 then [] else (List.range (h.length + p.length - 1)).map fun t => cvAt h p t h.length
/-- the element at t behind i rounds and k products. -/
def cvV (h p : List Int) (i k t : Nat) : Int := cvAt h p t i + (if i ≤ t ∧ t < i + k then h.getD i 0 * p.getD (t - i) 0 else 0)
def cvA (h p : List Int) (L i k : Nat) : Array Value := ((List.range L).map fun t => ((.int .i64 (cvV h p i k t)) : Value)).toArray
theorem lvl_get {l : List Int} (h : lvls l) (k : Nat) : -1048576 ≤ l.getD k 0 ∧ l.getD k 0 ≤ 1048576 := by
  rcases Nat.lt_or_ge k l.length with hk | hk
  · rw [List.getD_eq_getElem?_getD, List.getElem?_eq_getElem hk]
    exact h _ (List.getElem_mem hk)
  · rw [List.getD_eq_getElem?_getD, List.getElem?_eq_none hk]
    exact ⟨by decide, by decide⟩
theorem prod_bd {x y : Int} (hx : -1048576 ≤ x ∧ x ≤ 1048576) (hy : -1048576 ≤ y ∧ y ≤ 1048576) : -1099511627776 ≤ x * y ∧ x * y ≤ 1099511627776 := by
  have h1 : x.natAbs ≤ 1048576 := by omega
  have h2 : y.natAbs ≤ 1048576 := by omega
  have h3 : (x * y).natAbs ≤ 1048576 * 1048576 := by rw [Int.natAbs_mul]; exact Nat.mul_le_mul h1 h2
  omega
theorem cvAt_bd {h p : List Int} (hh : lvls h) (hp : lvls p) (t : Nat) : ∀ i : Nat, -1099511627776 * (i : Int) ≤ cvAt h p t i ∧ cvAt h p t i ≤ 1099511627776 * (i : Int)
  | 0 => by simp [cvAt]
  | i + 1 => by
    have h1 := cvAt_bd hh hp t i
    have h2 := prod_bd (lvl_get hh i) (lvl_get hp (t - i))
    simp only [cvAt]
    split <;> omega
theorem cvA_size (h p : List Int) (L i k : Nat) : (cvA h p L i k).size = L := by simp [cvA]
theorem cvA_get {h p : List Int} {L i k t : Nat} (ht : t < L) : (cvA h p L i k)[t]? = some (.int .i64 (cvV h p i k t)) := by simp [cvA, ht]
theorem cvV_next (h p : List Int) (i k : Nat) : cvV h p i (k + 1) (i + k) = cvV h p i k (i + k) + h.getD i 0 * p.getD k 0 := by
  unfold cvV
  rw [if_pos (by omega), if_neg (by omega), Nat.add_sub_cancel_left]
  omega
theorem cvA_set (h p : List Int) (L i k : Nat) (hL : i + k < L) : (cvA h p L i k).setIfInBounds (i + k) (.int .i64 (cvV h p i k (i + k) + h.getD i 0 * p.getD k 0)) = cvA h p L i (k + 1) := by
  apply Array.ext_getElem?
  intro t
  rw [← cvV_next]
  rcases Nat.lt_or_ge t L with ht | ht
  · rw [Array.getElem?_setIfInBounds, cvA_get ht, cvA_get ht, cvA_size]
    by_cases hq : i + k = t
    · subst hq
      rw [if_pos rfl, if_pos ht]
    · rw [if_neg hq]
      congr 2
      unfold cvV
      by_cases hc : i ≤ t ∧ t < i + k
      · rw [if_pos hc, if_pos (by omega)]
      · rw [if_neg hc, if_neg (by omega)]
  · rw [Array.getElem?_eq_none (by rw [Array.size_setIfInBounds, cvA_size]; exact ht), Array.getElem?_eq_none (by rw [cvA_size]; exact ht)]
theorem cvA_row (h p : List Int) (L i : Nat) : cvA h p L i p.length = cvA h p L (i + 1) 0 := by
  unfold cvA
  congr 1
  refine List.map_congr_left fun t _ => ?_
  congr 1
  unfold cvV
  rw [if_neg (show ¬ (i + 1 ≤ t ∧ t < i + 1 + 0) by omega)]
  simp only [cvAt]
  by_cases hit : i ≤ t
  · rw [if_pos hit]
    by_cases ht : t < i + p.length
    · rw [if_pos ⟨hit, ht⟩]; omega
    · rw [if_neg (by omega), List.getD_eq_getElem?_getD (l := p), List.getElem?_eq_none (by omega)]; simp
  · rw [if_neg hit, if_neg (by omega)]; simp
theorem cvA_zero (h p : List Int) (L : Nat) : cvA h p L 0 0 = (zerosA L).toArray := by
  unfold cvA zerosA
  congr 1
  apply List.ext_getElem?
  intro t
  rcases Nat.lt_or_ge t L with ht | ht
  · simp [ht, cvV, cvAt]
  · simp [ht]
theorem cvA_end (h p : List Int) (h0 : 0 < h.length) (p0 : 0 < p.length) : cvA h p (h.length + p.length - 1) h.length 0 = ((conv h p).map (Value.int .i64)).toArray := by
  unfold cvA conv
  rw [if_neg (by omega), List.map_map]
  congr 1
  refine List.map_congr_left fun t _ => ?_
  show Value.int .i64 _ = Value.int .i64 _
  congr 1
  unfold cvV
  rw [if_neg (by omega)]
  simp
theorem conv_len (h p : List Int) : (conv h p).length = if h.length = 0 ∨ p.length = 0 then 0 else h.length + p.length - 1 := by
  unfold conv
  split <;> simp
set_option maxRecDepth 100000 in
set_option maxHeartbeats 4000000 in
theorem convolved_any (h p : List Int) (A1 A2 : Option Addr) (c1 c2 N M : Nat) (w : World) (hN : N = h.length) (hM : M = p.length) (hN5 : N ≤ 2000) (hM5 : M ≤ 2000) (hh : lvls h) (hp : lvls p) (hC1 : Cells w A1 h) (hC2 : Cells w A2 p) :
    Calls Try.prog 67 #[.slice A1 N c1, .slice A2 M c2] w fun r w' => ∃ v, r = .returned v ∧ FS w.heap.size (conv h p) v w' ∧ Below w.heap.size w w' := by
  have HC1 := Lib.hid hC1
  have HC2 := Lib.hid hC2
  have HN := Lib.hid hN
  have HM := Lib.hid hM
  by_cases h0 : N = 0
  · have hcv : conv h p = [] := by unfold conv; rw [if_pos (.inl (by omega))]
    rw [hcv]
    subst h0
    clear hN hM hC1 hC2
    go_enter Try.func67, Try.ntmps67
    go_wp2
    go_ret
    exact ⟨_, rfl, ⟨_, _, rfl, fun h => absurd h (by simp), fun p h => by cases h⟩, Below.refl _ _⟩
  · by_cases m0 : M = 0
    · have hcv : conv h p = [] := by unfold conv; rw [if_pos (.inr (by omega))]
      rw [hcv]
      subst m0
      have hn0 : ((N : Int) == 0) = false := by simp; omega
      clear hN hM hC1 hC2
      go_enter Try.func67, Try.ntmps67
      go_wp2
      go_ret
      exact ⟨_, rfl, ⟨_, _, rfl, fun h => absurd h (by simp), fun p h => by cases h⟩, Below.refl _ _⟩
    · have hn0 : ((N : Int) == 0) = false := by simp; omega
      have hm0 : ((M : Int) == 0) = false := by simp; omega
      obtain ⟨L, hL⟩ : ∃ L, L = N + M - 1 := ⟨_, rfl⟩
      have hLi : (N : Int) + (M : Int) - 1 = (L : Int) := by omega
      have HEND : Hid (cvA h p L N 0 = ((conv h p).map (Value.int .i64)).toArray ∧ (conv h p).length = L) := Lib.hid (by rw [hL, hN, hM]; exact ⟨cvA_end h p (by omega) (by omega), by rw [conv_len, if_neg (by omega)]⟩)
      have HMK : Sem.run Try.prog (Instr.makeSlice 22 (.int .i64 ((L : Int))) (.int .i64 ((L : Int)))) w = .ok (.slice (some ⟨w.heap.size, 0, none⟩) L L) (w.alloc (.cells (cvA h p L 0 0) 3)) := by rw [cvA_zero]; exact mk_ints L (by omega) w
      have HROW : Hid (∀ i, cvA h p L i M = cvA h p L (i + 1) 0) := Lib.hid (fun i => by rw [hM]; exact cvA_row h p L i)
      have HSET : Hid (∀ i k, i + k < L → (cvA h p L i k).setIfInBounds (i + k) (.int .i64 (cvV h p i k (i + k) + h.getD i 0 * p.getD k 0)) = cvA h p L i (k + 1)) := Lib.hid (fun i k => cvA_set h p L i k)
      have HV : Hid (∀ i k, i ≤ 2000 → -2251799813685248 ≤ cvV h p i k (i + k) ∧ cvV h p i k (i + k) ≤ 2251799813685248) := Lib.hid (fun i k hi => by
        have := cvAt_bd hh hp (i + k) i
        unfold cvV
        rw [if_neg (by omega)]
        omega)
      have HHB := Lib.hid (fun k => lvl_get hh k)
      have HPB := Lib.hid (fun k => lvl_get hp k)
      have HL := Lib.hid hL
      clear hN hM hC1 hC2 hL hh hp
      go_enter Try.func67, Try.ntmps67
      go_wp2
      refine name_world ?_
      intro w1 e1
      have K1 := Lib.hid (show Blk w1 w.heap.size (cvA h p L 0 0) by rw [e1]; exact Calm.Blk.new _ _ _)
      have HB1 := Lib.hid (show Below w.heap.size w w1 by rw [e1]; exact bel)
      clear e1 HMK
      go_loopw [27] (fun i wr => ∃ k : Nat, k ≤ N ∧ i = (.int .i64 ((k : Int))) ∧ Blk wr w.heap.size (cvA h p L k 0) ∧ Below w.heap.size w wr) (fun i _ => N - (intOf i).toNat)
      case atStart => exact ⟨0, Nat.zero_le _, rfl, K1.out, HB1.out⟩
      case round =>
        obtain ⟨i, hi, rfl, hk, hb⟩ := hrel
        have HKI := Lib.hid hk
        have HBI := Lib.hid hb
        have hl0 := hk.lt
        clear hk hb
        by_cases hlt : i < N
        · obtain ⟨b, o, rfl, lb, hc⟩ := HC1.out (by rw [← HN.out]; omega)
          have x1 := (HBI.out.cell (p := ⟨b, o + i, none⟩) lb).trans (hc i (by rw [← HN.out]; exact hlt))
          obtain ⟨x, hx⟩ : ∃ x, x = h.getD i 0 := ⟨_, rfl⟩
          have hxb := HHB.out i
          rw [← hx] at x1 hxb
          have HX := Lib.hid hx
          clear hc hx
          go_wp2
          go_loopw [34] (fun z wq => ∃ k : Nat, k ≤ M ∧ z = (.int .i64 ((k : Int))) ∧ Blk wq w.heap.size (cvA h p L i k) ∧ Below w.heap.size w wq) (fun z _ => M - (intOf z).toNat)
          case atStart => exact ⟨0, Nat.zero_le _, rfl, HKI.out, HBI.out⟩
          case round =>
            rename World => wq
            obtain ⟨k, hk, rfl, hkk, hbk⟩ := hrel
            have HKK := Lib.hid hkk
            have HBK := Lib.hid hbk
            have hl1 := hkk.lt
            by_cases hltk : k < M
            · obtain ⟨b2, o2, rfl, lb2, hc2⟩ := HC2.out (by rw [← HM.out]; omega)
              have y1 := (HBK.out.cell (p := ⟨b2, o2 + k, none⟩) lb2).trans (hc2 k (by rw [← HM.out]; exact hltk))
              obtain ⟨y, hy⟩ : ∃ y, y = p.getD k 0 := ⟨_, rfl⟩
              have hyb := HPB.out k
              rw [← hy] at y1 hyb
              have hik : i + k < L := by have := HL.out; omega
              have z1 : wq.cell? ⟨w.heap.size, i + k, none⟩ = some (.int .i64 (cvV h p i k (i + k))) := by rw [hkk.c, cvA_get hik]
              have zl := hkk.lt
              have zf := hkk.f
              have hvb := HV.out i k (by omega)
              have HS : Hid ((cvA h p L i k).setIfInBounds (i + k) (.int .i64 (cvV h p i k (i + k) + x * y)) = cvA h p L i (k + 1)) := Lib.hid (by rw [HX.out, hy]; exact HSET.out i k hik)
              have hpb := prod_bd hxb hyb
              obtain ⟨V, hV⟩ : ∃ V, V = cvV h p i k (i + k) := ⟨_, rfl⟩
              rw [← hV] at z1 hvb HS
              obtain ⟨XY, hXY⟩ : ∃ XY, XY = x * y := ⟨_, rfl⟩
              have HXY := Lib.hid hXY
              have hwx : wrap64 (x * y) = XY := by rw [hXY]; exact Go.IntWalk.wrap64_in _ (by omega)
              rw [← hXY] at hpb HS
              clear hc2 hy hkk hbk hV hXY
              go_wp2
              go_roundw
              case rel => exact ⟨k + 1, by omega, by go_num, by have q := HKK.out.set (i := i + k) (by rw [cvA_size]; exact hik) (.int .i64 (V + XY)); rw [HS.out] at q; first | exact q | (rw [HXY.out] at q; exact q), HBK.out.setCell (p := ⟨w.heap.size, i + k, none⟩) (Nat.le_refl _) _⟩
              case measure => simp [intOf]; omega
            · obtain rfl : k = M := by omega
              clear hkk hbk
              go_wp2
              go_roundw
              case rel => exact ⟨i + 1, by omega, by go_num, by rw [← HROW.out]; exact HKK.out, HBK.out⟩
              case measure => simp [intOf]; omega
        · obtain rfl : i = N := by omega
          go_wp2
          go_ret
          obtain ⟨q1, q2⟩ := HEND.out
          exact ⟨.slice (some ⟨w.heap.size, 0, none⟩) L L, rfl, ⟨some ⟨w.heap.size, 0, none⟩, L, by rw [q2], Cells.blk HKI.out q1, by rintro p ⟨⟩; exact Nat.le_refl _⟩, HBI.out⟩
end Go.Proofs.Ytamldoidalnloaa
