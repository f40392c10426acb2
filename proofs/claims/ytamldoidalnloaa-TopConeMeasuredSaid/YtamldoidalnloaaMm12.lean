/- Part 12 of the texts of the claim: Tg1, Tg4, Tg6, Tg7, Tg8, Tg9. -/
import Derived.Test.YtamldoidalnloaaMm11
import Derived.Test.YtamldoidalnloaaMm8
import Derived.Lib.AppendStr
import Derived.Laws.BitsAllLaws

/- Rows of elements of one cell each, whatever they stand for (floats, bytes): what is known of their cells; how they grow. -/
namespace Go.Proofs.Ytamldoidalnloaa
open Go.RowKit
open Calm (bcell Blk)
def EC (enc : Int → Value) (w : World) (A : Option Addr) (zs : List Int) : Prop :=
  0 < zs.length → ∃ b off, A = some ⟨b, off, none⟩ ∧ b < w.heap.size ∧ ∀ k, k < zs.length → w.cell? ⟨b, off + k, none⟩ = some (enc (zs.getD k 0))
theorem EC.below {enc : Int → Value} {w w' : World} {A : Option Addr} {zs : List Int} (h : EC enc w A zs) (hb : Below w.heap.size w w') : EC enc w' A zs := by
  intro h0
  obtain ⟨b, off, hA, hl, hc⟩ := h h0
  exact ⟨b, off, hA, Nat.lt_of_lt_of_le hl hb.size, fun k hk => (hb.cell (p := ⟨b, off + k, none⟩) hl).trans (hc k hk)⟩
theorem EC.blk {enc : Int → Value} {W : World} {g : Nat} {cs : Array Value} {zs : List Int} (h : Blk W g cs) (e : cs = (zs.map enc).toArray) : EC enc W (some ⟨g, 0, none⟩) zs := fun h0 =>
  ⟨g, 0, rfl, h.lt, fun k hk => by
    have := h.c k
    rw [Nat.zero_add, this, e]
    simp [hk, List.getD_eq_getElem?_getD]⟩
theorem EC.drop {enc : Int → Value} {w : World} {b o : Nat} {zs : List Int} (h : EC enc w (some ⟨b, o, none⟩) zs) (n : Nat) : EC enc w (some ⟨b, o + n, none⟩) (zs.drop n) := fun h0 => by
  rw [List.length_drop] at h0
  obtain ⟨b', o', e, hl, hc⟩ := h (by omega)
  cases e
  refine ⟨b, o + n, rfl, hl, fun k hk => ?_⟩
  rw [List.length_drop] at hk
  have := hc (n + k) (by omega)
  rw [← Nat.add_assoc] at this
  rw [this]
  simp [List.getD_eq_getElem?_getD]
theorem own_ec {enc : Int → Value} {W : World} {base n : Nat} {e : TypeId} {v : Value} {zs : List Int} (h : W.ownsRow base e 1 v n (zs.map enc)) (hn : n = zs.length) : ∃ A c, v = .slice A n c ∧ (∀ p, A = some p → base ≤ p.block) ∧ EC enc W A zs := by
  rcases h.2 with ⟨h1, h2⟩ | ⟨g, cap, cur, h1, h2, h3, h4, h5, h6, h7⟩
  · exact ⟨none, 0, by rw [h1, h2], by simp, fun h0 => by omega⟩
  · refine ⟨some ⟨g, 0, none⟩, cap, h1, by rintro p ⟨⟩; exact h2, fun h0 => ⟨g, 0, rfl, (Array.getElem?_eq_some_iff.1 h3).1, fun k hk => ?_⟩⟩
    have hj : (zs.map enc)[k]? = some (enc (zs.getD k 0)) := by simp [hk, List.getD_eq_getElem?_getD]
    rw [Nat.zero_add, cell_of_row W g k cur _ _ h3]
    rw [← h7, List.getElem?_take] at hj
    split at hj
    · rw [← hj]; simp
    · cases hj
theorem EC.src {enc : Int → Value} {W : World} {b off : Nat} {zs : List Int} (hc : ∀ k, k < zs.length → W.cell? ⟨b, off + k, none⟩ = some (enc (zs.getD k 0))) : ∀ j v, (zs.map enc)[j]? = some v → W.cell? ((⟨b, off, none⟩ : Addr).add j) = some v := fun j v hj => by
  rcases Nat.lt_or_ge j zs.length with hlt | hge
  · rw [Addr.add_lit]
    rw [hc j hlt]
    simp [hlt, List.getD_eq_getElem?_getD] at hj ⊢
    exact hj
  · rw [List.getElem?_eq_none (by simpa using hge)] at hj
    cases hj
/-- a type of elements of one cell. -/
structure ETy (P : Program) (t e : TypeId) (bytes : Nat) (z : Value) : Prop where
  u : P.underlying t = some (.slice e)
  i : (P.info? e).map (fun i => (i.zero, i.size, i.bytes)) = some (some z, 1, bytes)
  zc : z.cells.size = 1
  b0 : 0 < bytes
  b8 : bytes ≤ 16
/-- an append of elements onto a row of one's own. -/
theorem wpList_appE {P : Program} {t e : TypeId} {bytes : Nat} {z : Value} (T : ETy P t e bytes z) {enc : Int → Value} (h1 : ∀ z, (enc z).oneCell' = true) {w : World} {ops : Array Oper} {rest : List Oper} {o : Oper} {a : Act} {Q : Exit → Act → World → Prop} (hgd : o.guard = none) (s x : Operand)
    (ho : o.op = .call { callee := .builtin .append, args := #[s, x], argTypes := #[t, t] }) (base : Nat) (u : Value) (xs : List Int) (hs : a.eval s = u) (hown : w.ownsRow base e 1 u xs.length (xs.map enc)) (A : Option Addr) (m c : Nat) (ys : List Int) (hm : m = ys.length)
    (hx : a.eval x = .slice A m c) (hc : EC enc w A ys) (h5 : xs.length + m ≤ 100000) (hb : base ≤ w.heap.size)
    (h : ∀ v' w', w'.ownsRow base e 1 v' (xs ++ ys).length ((xs ++ ys).map enc) → w.grownBy w' u.ownBlock → wpList P ops Q rest (a.put o.dst v') w') : wpList P ops Q (o :: rest) a w := by
  obtain ⟨i0, hi, hz0, hz1, hz2⟩ := info_parts T.i
  have hz3 := T.zc
  have hb8 := T.b8
  rcases Nat.eq_zero_or_pos m with h0 | h0
  · subst h0
    obtain rfl : ys = [] := List.eq_nil_of_length_eq_zero hm.symm
    refine wpList_plain hgd fun K hK => ?_
    have hu : ∃ B d, u = .slice B xs.length d ∧ xs.length ≤ d ∧ d ≤ 9223372036854775807 ∧ (B = none → d = 0) := by
      rcases hown.2 with ⟨h1, h2⟩ | ⟨g, cap, cur, h1, _, _, h4, h5', _⟩
      · exact ⟨none, 0, by rw [h1, h2], by omega, by omega, fun _ => rfl⟩
      · exact ⟨_, cap, h1, h4, by simp only [maxLen] at h5'; omega, fun h => by cases h⟩
    obtain ⟨B, d, rfl, h1, h2, h3⟩ := hu
    have hrun := run_append_none (P := P) w t o.type e i0 _ T.u hi hz0 B A xs.length d c h1 h2 h3
    unfold Oper.wp
    simp [execOp, ho, resolve, invoke, builtin, hs, hx, hrun, Result.andThen]
    exact hK _ _ (h _ w (by simpa using hown) (World.grownBy.refl _ _))
  · obtain ⟨b, off, rfl, hbl, hcc⟩ := hc (by omega)
    refine wpList_append_own w hgd s x t ho base e i0 _ 1 bytes T.u hi hz0 hz1 hz2 hz3 (by decide) u xs.length _ hs hown ⟨b, off, none⟩ m c (ys.map enc) hx (by simp; omega) (fun j v hj => EC.src hcc j v hj) (fun u hu => by obtain ⟨z, _, rfl⟩ := List.mem_map.1 hu; exact h1 z) (by unfold maxLen; omega) (by have := Nat.mul_le_mul (show xs.length + m ≤ 100000 by omega) hb8; omega) hb ?_
    intro v' w' k1 k2 _
    exact h v' w' (by rw [List.length_append, List.map_append, ← hm]; exact k1) k2
def encF (z : Int) : Value := .float .f32 (fl z)
def encB (z : Int) : Value := .int .u8 z
theorem encF_one (z : Int) : (encF z).oneCell' = true := rfl
theorem encB_one (z : Int) : (encB z).oneCell' = true := rfl
theorem eF : ETy Try.prog 47 98 4 (.float .f32 0) := ⟨by kernel_rfl, by kernel_rfl, rfl, by decide, by decide⟩
theorem eB : ETy Try.prog 52 5 1 (.int .u8 0) := ⟨by kernel_rfl, by kernel_rfl, rfl, by decide, by decide⟩
theorem eI : ETy Try.prog 22 3 8 (.int .i64 0) := ⟨by kernel_rfl, by kernel_rfl, rfl, by decide, by decide⟩
end Go.Proofs.Ytamldoidalnloaa

/- signal: what its small functions do with floats that stand for sixteenths; CheckSample, checkAll. -/
namespace Go.Proofs.Ytamldoidalnloaa
open Go.RowKit
open Calm (bcell Blk)
section
variable {z : Int} (h : FlOk z)
include h
theorem FlOk.rquo (W : World) : (binOp .quo 98 (.float .f32 (floatOfInt .f32 z)) (.float .f32 1098907648)).run Try.prog W = .ok (.float .f32 (fl z)) W := run_float_arith W .quo _ .f32 _ _ _ h.quo
theorem FlOk.rmul (W : World) : (binOp .mul 98 (.float .f32 (fl z)) (.float .f32 1098907648)).run Try.prog W = .ok (.float .f32 (floatOfInt .f32 z)) W := run_float_arith W .mul _ .f32 _ _ _ h.mul
theorem FlOk.rsub (W : World) : (binOp .sub 98 (.float .f32 (fl z)) (.float .f32 (fl z))).run Try.prog W = .ok (.float .f32 0) W := run_float_arith W .sub _ .f32 _ _ _ h.sub
theorem FlOk.radd (W : World) : (binOp .add 98 (.float .f32 (fl z)) (.float .f32 0)).run Try.prog W = .ok (.float .f32 (fl z)) W := run_float_arith W .add _ .f32 _ _ _ h.add0
theorem FlOk.rint (W : World) : (convert 98 3 (.float .f32 (floatOfInt .f32 z))).run Try.prog W = .ok (.int .i64 z) W := run_convert_float_int W _ _ .f32 .i64 _ _ (by kernel_rfl) (by kernel_rfl) h.toI
omit h in
theorem FlOk.rflt (W : World) : (convert 3 98 (.int .i64 z)).run Try.prog W = .ok (.float .f32 (floatOfInt .f32 z)) W := run_convert_int_float W _ _ .i64 .f32 _ (by kernel_rfl) (by kernel_rfl)
theorem gOf1_any (w : World) : Calls Try.prog 56 #[(.int .i64 z)] w fun r w' => r = .returned (encF z) ∧ w = w' := by
  have q1 := fun W => FlOk.rflt (z := z) W
  have q2 := fun W => h.rquo W
  go_enter Try.func56, Try.ntmps56
  go_wp2
  go_ret
  exact ⟨rfl, rfl⟩
theorem gWith1_any (w : World) : Calls Try.prog 105 #[encF z] w fun r w' => r = .returned (encF z) ∧ w = w' := by
  have q1 := fun W => h.radd W
  unfold encF
  go_enter Try.func105, Try.ntmps105
  go_wp2
  go_ret
  exact ⟨rfl, rfl⟩
theorem gSeq1_any (w : World) : Calls Try.prog 65 #[encF z] w fun r w' => r = .returned (.int .i64 z) ∧ w = w' := by
  have q1 := fun W => h.rmul W
  have q2 := fun W => h.rint W
  unfold encF
  go_enter Try.func65, Try.ntmps65
  go_wp2
  go_ret
  exact ⟨rfl, rfl⟩
theorem gSample_any (w : World) : Calls Try.prog 103 #[encF z] w fun r w' => r = .returned (.int .i64 0) ∧ w = w' := by
  have q1 := fun W => h.rmul W
  have q2 := fun W => h.rint W
  have q3 := fun W => FlOk.rflt (z := z) W
  have q4 := fun W => h.rsub W
  have q5 := h.lo
  have q6 := h.hi
  have q7 : FloatKind.f32.format.order (floatOfInt .f32 z) (floatOfInt .f32 z) = some .eq := h.eq
  unfold encF
  generalize fl z = F at *
  generalize floatOfInt .f32 z = G at *
  have q8 : FloatKind.f32.format.order 0 0 = some .eq := rfl
  go_enter Try.func103, Try.ntmps103
  go_wp2_with (go_at_call 61; refine (gWhen_any _ _ _).mono ?_; rintro r w' ⟨rfl, rfl⟩)
  go_ret
  exact ⟨rfl, rfl⟩
end
/-- all elements stand for small numbers. -/
def flL (l : List Int) : Prop := ∀ x ∈ l, FlOk x
theorem flL.get {l : List Int} (h : flL l) {k : Nat} (hk : k < l.length) : FlOk (l.getD k 0) := by
  rw [List.getD_eq_getElem?_getD, List.getElem?_eq_getElem hk]
  exact h _ (List.getElem_mem hk)
set_option maxRecDepth 100000 in
set_option maxHeartbeats 2000000 in
theorem checkAll_ok (l : List Int) (A : Option Addr) (c N : Nat) (w : World) (hN : N = l.length) (hN5 : N ≤ 5000) (hl : flL l) (hC : EC encF w A l) :
    Calls Try.prog 90 #[.slice A N c] w fun r w' => r = .returned (.int .i64 0) ∧ Below w.heap.size w w' := by
  have HC := Lib.hid hC
  have HN := Lib.hid hN
  have HS : Hid (∀ k, k < N → ∀ W, Calls Try.prog 103 #[encF (l.getD k 0)] W fun r w' => r = .returned (.int .i64 0) ∧ W = w') := Lib.hid (fun k hk W => gSample_any (hl.get (by omega)) W)
  clear hC hN hl
  go_enter Try.func90, Try.ntmps90
  go_wp2
  go_step3
  go_wp2
  go_step3
  go_wp2
  go_loopw [3, 8] (fun x z wr => ∃ k : Nat, k ≤ N ∧ z = (.int .i64 ((k : Int))) ∧ x = (.int .i64 0) ∧ Below w.heap.size w wr) (fun _ z _ => N - (intOf z).toNat)
  case atStart => exact ⟨0, Nat.zero_le _, rfl, rfl, Below.refl _ _⟩
  case round =>
    obtain ⟨k, hk, rfl, rfl, hbr⟩ := hrel
    have HBR := Lib.hid hbr
    by_cases hlt : k < N
    · obtain ⟨b, o, rfl, lb, hc⟩ := HC.out (by rw [← HN.out]; omega)
      have x1 := (hbr.cell (p := ⟨b, o + k, none⟩) lb).trans (hc k (by rw [← HN.out]; exact hlt))
      have HSX := Lib.hid (HS.out k hlt)
      obtain ⟨x, hx⟩ : ∃ x, x = encF (l.getD k 0) := ⟨_, rfl⟩
      rw [← hx] at x1 HSX
      clear hc hx hbr
      go_wp2_with (go_at_call 103; refine (HSX.out _).mono ?_; rintro r w' ⟨rfl, rfl⟩)
      go_roundw
      case rel => exact ⟨k + 1, by omega, by go_num, rfl, HBR.out⟩
      case measure => simp [intOf] <;> omega
    · obtain rfl : k = N := by omega
      clear hbr
      go_wp2
      rw [Exit.noGoto_ret]
      go_ret
      exact ⟨rfl, HBR.out⟩
end Go.Proofs.Ytamldoidalnloaa

/- signal: mapped between integers and floats. -/
namespace Go.Proofs.Ytamldoidalnloaa
open Go.RowKit
open Calm (bcell Blk)
theorem Cells.ec {w : World} {A : Option Addr} {l : List Int} (h : Cells w A l) : EC (Value.int .i64) w A l := h
theorem EC.cells {w : World} {A : Option Addr} {l : List Int} (h : EC (Value.int .i64) w A l) : Cells w A l := h
set_option maxRecDepth 100000 in
set_option maxHeartbeats 2000000 in
theorem mapOf_any (A : Option Addr) (l : List Int) (c N : Nat) (w : World) (hN : N = l.length) (hn : N ≤ 5000) (hl : flL l) (hC : EC (Value.int .i64) w A l) :
    Calls Try.prog 55 #[.slice A N c, .func (.func 56) #[] #[]] w fun r w' =>
      (∃ B d, r = .returned (.slice B N d) ∧ EC encF w' B l ∧ ∀ p, B = some p → w.heap.size ≤ p.block) ∧ Below w.heap.size w w' := by
  have HC := Lib.hid hC
  have HN := Lib.hid hN
  have HKALL : Hid (∀ k, k < N → ∀ z, z = l.getD k 0 → ∀ W, Calls Try.prog 56 #[(.int .i64 z)] W fun r w' => r = .returned (.float .f32 (fl z)) ∧ W = w') := Lib.hid (fun k hk z hz W => by rw [hz]; exact gOf1_any (hl.get (by omega)) W)
  have HL : Hid (∀ k, k ≤ N → (l.take k).length = k) := Lib.hid (fun k hk => by rw [List.length_take]; omega)
  have HALL : Hid (l.take N = l) := Lib.hid (by rw [hN]; exact List.take_length)
  have HSU : Hid (∀ k, k < N → l.take (k + 1) = l.take k ++ [l.getD k 0]) := Lib.hid (fun k hk => by rw [List.take_succ_eq_append_getElem (by omega), List.getD_eq_getElem?_getD, List.getElem?_eq_getElem (by omega)]; rfl)
  clear hN hC hl
  go_enter Try.func55, Try.ntmps55
  go_wp2
  go_loopw [5, 10] (fun v i wr => ∃ k : Nat, k ≤ N ∧ i = (.int .i64 ((k : Int))) ∧ wr.ownsRow w.heap.size 98 1 v (l.take k).length ((l.take k).map encF) ∧ Below w.heap.size w wr) (fun _ i _ => N - (intOf i).toNat)
  case atStart => exact ⟨0, Nat.zero_le _, rfl, World.ownsRow_nil _ _ _ _, Below.refl _ _⟩
  case round =>
    obtain ⟨k, hk, rfl, hown, hB⟩ := hrel
    have HO := Lib.hid hown
    have hle := Lib.hid (HL.out k hk)
    have hsz := hB.size
    clear hown
    by_cases hlt : k < N
    · obtain ⟨b, o, rfl, l1, k1⟩ := HC.out (by rw [← HN.out]; omega)
      have x1 := (hB.cell (p := ⟨b, o + k, none⟩) l1).trans (k1 k (by rw [← HN.out]; exact hlt))
      have HS := Lib.hid (HSU.out k hlt)
      obtain ⟨z, hz⟩ : ∃ z, z = l.getD k 0 := ⟨_, rfl⟩
      have HCX := Lib.hid (HKALL.out k hlt z hz)
      rw [← hz] at x1 HS
      have x1 : wr.cell? ⟨b, o + k, none⟩ = some (.int .i64 z) := x1
      clear k1 hz
      go_wp2_with (first
        | (go_at_call 56; refine (HCX.out _).mono ?_; rintro r w2 ⟨rfl, rfl⟩)
        | (at_builtin; refine name_list ?_; intro w3 e3; refine Hid.out ?_))
      unfold Hid
      have h3 : Below wr.heap.size wr w3 := by rw [e3]; exact bel
      have K3 : Blk w3 wr.heap.size #[(.float .f32 (fl z))] := by rw [e3]; exact Calm.Blk.new _ _ _
      have HO3 := Lib.hid (ownsRow_below HO.out h3)
      have HB3 := Lib.hid (hB.trans (h3.mono hsz))
      have hs3 := HB3.out.size
      have hEC : EC encF w3 (some ⟨wr.heap.size, 0, none⟩) [z] := EC.blk K3 rfl
      clear e3 h3 K3 hB
      refine wpList_appE eF (fun _ => rfl) rfl _ _ rfl w.heap.size _ (l.take k) rfl HO3.out _ 1 1 [z] rfl rfl hEC (by rw [hle.out]; omega) hs3 ?_
      intro v' w1 hown' hgrow
      have HB' := Lib.hid (HB3.out.grown hgrow hs3 (fun j hj => (HO3.out.lt j hj).1))
      have HO' := Lib.hid hown'
      clear hgrow hown' hEC
      go_wp2
      go_roundw
      case rel => exact ⟨k + 1, by omega, by go_num, by rw [HS.out]; exact HO'.out, HB'.out⟩
      case measure => simp [intOf]; omega
    · obtain rfl : k = N := by omega
      have hown := HO.out
      rw [hle.out, HALL.out] at hown
      obtain ⟨B, d, rfl, hge, hr⟩ := own_ec (enc := encF) hown HN.out
      have HR := Lib.hid hr
      have HG := Lib.hid hge
      clear hown hr hge
      go_wp2
      go_ret
      exact ⟨⟨B, d, rfl, HR.out, HG.out⟩, hB⟩
set_option maxRecDepth 100000 in
set_option maxHeartbeats 2000000 in
theorem mapWith_any (A : Option Addr) (l : List Int) (c N : Nat) (w : World) (hN : N = l.length) (hn : N ≤ 5000) (hl : flL l) (hC : EC encF w A l) :
    Calls Try.prog 104 #[.slice A N c, .func (.func 105) #[] #[]] w fun r w' =>
      (∃ B d, r = .returned (.slice B N d) ∧ EC encF w' B l ∧ ∀ p, B = some p → w.heap.size ≤ p.block) ∧ Below w.heap.size w w' := by
  have HC := Lib.hid hC
  have HN := Lib.hid hN
  have HKALL : Hid (∀ k, k < N → ∀ z, z = l.getD k 0 → ∀ W, Calls Try.prog 105 #[(.float .f32 (fl z))] W fun r w' => r = .returned (.float .f32 (fl z)) ∧ W = w') := Lib.hid (fun k hk z hz W => by rw [hz]; exact gWith1_any (hl.get (by omega)) W)
  have HL : Hid (∀ k, k ≤ N → (l.take k).length = k) := Lib.hid (fun k hk => by rw [List.length_take]; omega)
  have HALL : Hid (l.take N = l) := Lib.hid (by rw [hN]; exact List.take_length)
  have HSU : Hid (∀ k, k < N → l.take (k + 1) = l.take k ++ [l.getD k 0]) := Lib.hid (fun k hk => by rw [List.take_succ_eq_append_getElem (by omega), List.getD_eq_getElem?_getD, List.getElem?_eq_getElem (by omega)]; rfl)
  clear hN hC hl
  go_enter Try.func104, Try.ntmps104
  go_wp2
  go_loopw [5, 10] (fun v i wr => ∃ k : Nat, k ≤ N ∧ i = (.int .i64 ((k : Int))) ∧ wr.ownsRow w.heap.size 98 1 v (l.take k).length ((l.take k).map encF) ∧ Below w.heap.size w wr) (fun _ i _ => N - (intOf i).toNat)
  case atStart => exact ⟨0, Nat.zero_le _, rfl, World.ownsRow_nil _ _ _ _, Below.refl _ _⟩
  case round =>
    obtain ⟨k, hk, rfl, hown, hB⟩ := hrel
    have HO := Lib.hid hown
    have hle := Lib.hid (HL.out k hk)
    have hsz := hB.size
    clear hown
    by_cases hlt : k < N
    · obtain ⟨b, o, rfl, l1, k1⟩ := HC.out (by rw [← HN.out]; omega)
      have x1 := (hB.cell (p := ⟨b, o + k, none⟩) l1).trans (k1 k (by rw [← HN.out]; exact hlt))
      have HS := Lib.hid (HSU.out k hlt)
      obtain ⟨z, hz⟩ : ∃ z, z = l.getD k 0 := ⟨_, rfl⟩
      have HCX := Lib.hid (HKALL.out k hlt z hz)
      rw [← hz] at x1 HS
      have x1 : wr.cell? ⟨b, o + k, none⟩ = some (.float .f32 (fl z)) := x1
      clear k1 hz
      go_wp2_with (first
        | (go_at_call 105; refine (HCX.out _).mono ?_; rintro r w2 ⟨rfl, rfl⟩)
        | (at_builtin; refine name_list ?_; intro w3 e3; refine Hid.out ?_))
      unfold Hid
      have h3 : Below wr.heap.size wr w3 := by rw [e3]; exact bel
      have K3 : Blk w3 wr.heap.size #[(.float .f32 (fl z))] := by rw [e3]; exact Calm.Blk.new _ _ _
      have HO3 := Lib.hid (ownsRow_below HO.out h3)
      have HB3 := Lib.hid (hB.trans (h3.mono hsz))
      have hs3 := HB3.out.size
      have hEC : EC encF w3 (some ⟨wr.heap.size, 0, none⟩) [z] := EC.blk K3 rfl
      clear e3 h3 K3 hB
      refine wpList_appE eF (fun _ => rfl) rfl _ _ rfl w.heap.size _ (l.take k) rfl HO3.out _ 1 1 [z] rfl rfl hEC (by rw [hle.out]; omega) hs3 ?_
      intro v' w1 hown' hgrow
      have HB' := Lib.hid (HB3.out.grown hgrow hs3 (fun j hj => (HO3.out.lt j hj).1))
      have HO' := Lib.hid hown'
      clear hgrow hown' hEC
      go_wp2
      go_roundw
      case rel => exact ⟨k + 1, by omega, by go_num, by rw [HS.out]; exact HO'.out, HB'.out⟩
      case measure => simp [intOf]; omega
    · obtain rfl : k = N := by omega
      have hown := HO.out
      rw [hle.out, HALL.out] at hown
      obtain ⟨B, d, rfl, hge, hr⟩ := own_ec (enc := encF) hown HN.out
      have HR := Lib.hid hr
      have HG := Lib.hid hge
      clear hown hr hge
      go_wp2
      go_ret
      exact ⟨⟨B, d, rfl, HR.out, HG.out⟩, hB⟩
set_option maxRecDepth 100000 in
set_option maxHeartbeats 2000000 in
theorem mapSeq_any (A : Option Addr) (l : List Int) (c N : Nat) (w : World) (hN : N = l.length) (hn : N ≤ 5000) (hl : flL l) (hC : EC encF w A l) :
    Calls Try.prog 64 #[.slice A N c, .func (.func 65) #[] #[]] w fun r w' =>
      (∃ B d, r = .returned (.slice B N d) ∧ EC (Value.int .i64) w' B l ∧ ∀ p, B = some p → w.heap.size ≤ p.block) ∧ Below w.heap.size w w' := by
  have HC := Lib.hid hC
  have HN := Lib.hid hN
  have HKALL : Hid (∀ k, k < N → ∀ z, z = l.getD k 0 → ∀ W, Calls Try.prog 65 #[(.float .f32 (fl z))] W fun r w' => r = .returned (.int .i64 z) ∧ W = w') := Lib.hid (fun k hk z hz W => by rw [hz]; exact gSeq1_any (hl.get (by omega)) W)
  have HL : Hid (∀ k, k ≤ N → (l.take k).length = k) := Lib.hid (fun k hk => by rw [List.length_take]; omega)
  have HALL : Hid (l.take N = l) := Lib.hid (by rw [hN]; exact List.take_length)
  have HSU : Hid (∀ k, k < N → l.take (k + 1) = l.take k ++ [l.getD k 0]) := Lib.hid (fun k hk => by rw [List.take_succ_eq_append_getElem (by omega), List.getD_eq_getElem?_getD, List.getElem?_eq_getElem (by omega)]; rfl)
  clear hN hC hl
  go_enter Try.func64, Try.ntmps64
  go_wp2
  go_loopw [5, 10] (fun v i wr => ∃ k : Nat, k ≤ N ∧ i = (.int .i64 ((k : Int))) ∧ wr.ownsRow w.heap.size 3 1 v (l.take k).length ((l.take k).map (Value.int .i64)) ∧ Below w.heap.size w wr) (fun _ i _ => N - (intOf i).toNat)
  case atStart => exact ⟨0, Nat.zero_le _, rfl, World.ownsRow_nil _ _ _ _, Below.refl _ _⟩
  case round =>
    obtain ⟨k, hk, rfl, hown, hB⟩ := hrel
    have HO := Lib.hid hown
    have hle := Lib.hid (HL.out k hk)
    have hsz := hB.size
    clear hown
    by_cases hlt : k < N
    · obtain ⟨b, o, rfl, l1, k1⟩ := HC.out (by rw [← HN.out]; omega)
      have x1 := (hB.cell (p := ⟨b, o + k, none⟩) l1).trans (k1 k (by rw [← HN.out]; exact hlt))
      have HS := Lib.hid (HSU.out k hlt)
      obtain ⟨z, hz⟩ : ∃ z, z = l.getD k 0 := ⟨_, rfl⟩
      have HCX := Lib.hid (HKALL.out k hlt z hz)
      rw [← hz] at x1 HS
      have x1 : wr.cell? ⟨b, o + k, none⟩ = some (.float .f32 (fl z)) := x1
      clear k1 hz
      go_wp2_with (first
        | (go_at_call 65; refine (HCX.out _).mono ?_; rintro r w2 ⟨rfl, rfl⟩)
        | (at_builtin; refine name_list ?_; intro w3 e3; refine Hid.out ?_))
      unfold Hid
      have h3 : Below wr.heap.size wr w3 := by rw [e3]; exact bel
      have K3 : Blk w3 wr.heap.size #[(.int .i64 z)] := by rw [e3]; exact Calm.Blk.new _ _ _
      have HO3 := Lib.hid (ownsRow_below HO.out h3)
      have HB3 := Lib.hid (hB.trans (h3.mono hsz))
      have hs3 := HB3.out.size
      have hEC : EC (Value.int .i64) w3 (some ⟨wr.heap.size, 0, none⟩) [z] := EC.blk K3 rfl
      clear e3 h3 K3 hB
      refine wpList_appE eI (fun _ => rfl) rfl _ _ rfl w.heap.size _ (l.take k) rfl HO3.out _ 1 1 [z] rfl rfl hEC (by rw [hle.out]; omega) hs3 ?_
      intro v' w1 hown' hgrow
      have HB' := Lib.hid (HB3.out.grown hgrow hs3 (fun j hj => (HO3.out.lt j hj).1))
      have HO' := Lib.hid hown'
      clear hgrow hown' hEC
      go_wp2
      go_roundw
      case rel => exact ⟨k + 1, by omega, by go_num, by rw [HS.out]; exact HO'.out, HB'.out⟩
      case measure => simp [intOf]; omega
    · obtain rfl : k = N := by omega
      have hown := HO.out
      rw [hle.out, HALL.out] at hown
      obtain ⟨B, d, rfl, hge, hr⟩ := own_ec (enc := (Value.int .i64)) hown HN.out
      have HR := Lib.hid hr
      have HG := Lib.hid hge
      clear hown hr hge
      go_wp2
      go_ret
      exact ⟨⟨B, d, rfl, HR.out, HG.out⟩, hB⟩
end Go.Proofs.Ytamldoidalnloaa

/- signal: records that hold: CheckRecord, with, checked, OfSequence, Sequence. -/
namespace Go.Proofs.Ytamldoidalnloaa
open Go.RowKit
open Calm (bcell Blk)
/-- a name that the program takes for one. -/
structure NmOk (nm : ByteArray) : Prop where
  call : ∀ W, Calls Try.prog 52 #[.string nm] W fun r w' => r = .returned (.int .i64 0) ∧ Below W.heap.size W w'
  len : nm.size ≤ 24
theorem nmOk_letter (c : UInt8) (h1 : 97 ≤ c.toNat) (h2 : c.toNat ≤ 122) : NmOk ⟨#[c]⟩ := by
  refine ⟨fun W => ?_, by simp [ByteArray.size]⟩
  have HIS := Lib.hid (isName1 c W h1 h2)
  obtain ⟨s, hs⟩ : ∃ s : ByteArray, s = ⟨#[c]⟩ := ⟨_, rfl⟩
  rw [← hs] at HIS ⊢
  clear hs h1 h2
  go_enter Try.func52, Try.ntmps52
  go_wp2_with (go_at_call 87; refine HIS.out.mono ?_; rintro r w1 ⟨rfl, h1⟩; refine Hid.out ?_)
  unfold Hid
  have HB := Lib.hid h1
  clear h1
  go_wp2_with (go_at_call 61; refine (gWhen_any _ _ _).mono ?_; rintro r w' ⟨rfl, rfl⟩)
  go_ret
  exact ⟨rfl, HB.out⟩
theorem gRange_ok (n lo hi : Int) (h : lo ≤ n ∧ n ≤ hi) (W : World) : Calls Try.prog 53 #[(.int .i64 n), (.int .i64 lo), (.int .i64 hi)] W fun r w' => r = .returned (.int .i64 0) ∧ Below W.heap.size W w' :=
  (gWithin_any n lo hi W).mono fun _ _ ⟨he, h2⟩ => ⟨by rw [he, rangeErr_in h.1 h.2], h2 ▸ Below.refl _ _⟩
theorem gWhen_no (e : Int) (W : World) : Calls Try.prog 61 #[.bool false, (.int .i64 e)] W fun r w' => r = .returned (.int .i64 0) ∧ Below W.heap.size W w' := (gWhen_any false e W).mono fun _ _ ⟨he, h2⟩ => ⟨he, h2 ▸ Below.refl _ _⟩
set_option maxRecDepth 100000 in
set_option maxHeartbeats 4000000 in
theorem checkRecord_ok (nm : ByteArray) (rate : Int) (l : List Int) (A : Option Addr) (c N : Nat) (w : World) (hnm : NmOk nm) (hr : 1 ≤ rate ∧ rate ≤ 192000) (hN : N = l.length) (hN5 : N ≤ 4096) (hl : flL l) (hC : EC encF w A l) :
    Calls Try.prog 58 #[.agg #[.string nm, (.int .i64 rate), .slice A N c]] w fun r w' => r = .returned (.int .i64 0) ∧ Below w.heap.size w w' := by
  have HNM := Lib.hid hnm.call
  have HWI := Lib.hid (gRange_ok rate 1 192000 hr)
  have HWH := Lib.hid gWhen_no
  have HF3 : Hid (∀ (W : World), Calls Try.prog 51 #[.slice (some ⟨W.heap.size, 0, none⟩) 3 3] (W.alloc (.cells #[(.int .i64 0), (.int .i64 0), (.int .i64 0)] 24)) fun r w' => r = .returned (.int .i64 0) ∧ (W.alloc (.cells #[(.int .i64 0), (.int .i64 0), (.int .i64 0)] 24)) = w') := Lib.hid (fun W => gFirst_cells [0, 0, 0] W (by simp))
  have HCA : Hid (∀ W, EC encF W A l → Calls Try.prog 90 #[.slice A N c] W fun r w' => r = .returned (.int .i64 0) ∧ Below W.heap.size W w') := Lib.hid (fun W q => checkAll_ok l A c N W hN (by omega) hl q)
  have HC := Lib.hid hC
  have hgt : decide ((4096 : Int) < (N : Int)) = false := decide_eq_false (by omega)
  clear hnm hN hl hC hr
  go_enter Try.func58, Try.ntmps58
  go_wp2
  refine name_world ?_
  intro w1 e1
  have K0 : Blk w1 w.heap.size #[.string nm, (.int .i64 rate), .slice A N c] := by rw [e1]; (repeat (first | ((with_reducible refine Blk.at_ ?_); focus (first | rfl | (simp; done) | (simp; omega))) | (with_reducible refine Blk.alloc ?_ _) | (with_reducible refine Blk.below ?_ (by with_reducible assumption)) | (with_reducible refine Blk.drew ?_)))
  have HB1 := Lib.hid (show Below w.heap.size w w1 by rw [e1]; exact bel)
  have HK0 := Lib.hid K0
  obtain ⟨a0, a1, a2, al, af⟩ := K0.o3
  clear e1 K0
  refine Rel.region3 11 (by kernel_rfl) (by kernel_rfl) (by kernel_rfl) ?_
  simp only [List.take_succ_cons, List.take_zero, List.drop_succ_cons, List.drop_zero, List.filterMap_cons, List.filterMap_nil]
  iterate 2 (apply Rel.op3; (focus (first | exact Rel.gno rfl | exact Rel.gyes _ true _ rfl rfl rfl | exact Rel.gyes _ false _ rfl rfl rfl)); (focus (intro a W hb hd hbase; obtain ⟨hc, hf⟩ := bcell hb; clear hb hf; simp [Rel.deps, Rel.dep1, Rel.ons, Region.binds, Act.eval] at hd; simp only [Act.eval, List.mem_cons, List.not_mem_nil, not_or, and_imp, or_false, Array.getD_eq_getD_getElem?] at hbase; go_simp; (try go_bits); (try rfl); done)); (try simp only [List.nil_append, List.cons_append]))
  (apply Rel.call3; (focus (first | exact Rel.gno rfl | exact Rel.gyes _ true _ rfl rfl rfl | exact Rel.gyes _ false _ rfl rfl rfl)); (focus (intro a W hb hd hbase; obtain ⟨hc, hf⟩ := bcell hb; clear hb hf; simp [Rel.deps, Rel.dep1, Rel.ons, Region.binds, Act.eval] at hd; simp only [Act.eval, List.mem_cons, List.not_mem_nil, not_or, and_imp, or_false, Array.getD_eq_getD_getElem?] at hbase; go_simp; refine ⟨?_, ?_⟩; rfl; rfl)); (focus (intro W hb; go_at_call 52; exact HNM.out W)); (try simp only [List.nil_append, List.cons_append]))
  iterate 2 (apply Rel.op3; (focus (first | exact Rel.gno rfl | exact Rel.gyes _ true _ rfl rfl rfl | exact Rel.gyes _ false _ rfl rfl rfl)); (focus (intro a W hb hd hbase; obtain ⟨hc, hf⟩ := bcell hb; clear hb hf; simp [Rel.deps, Rel.dep1, Rel.ons, Region.binds, Act.eval] at hd; simp only [Act.eval, List.mem_cons, List.not_mem_nil, not_or, and_imp, or_false, Array.getD_eq_getD_getElem?] at hbase; go_simp; (try go_bits); (try rfl); done)); (try simp only [List.nil_append, List.cons_append]))
  (apply Rel.call3; (focus (first | exact Rel.gno rfl | exact Rel.gyes _ true _ rfl rfl rfl | exact Rel.gyes _ false _ rfl rfl rfl)); (focus (intro a W hb hd hbase; obtain ⟨hc, hf⟩ := bcell hb; clear hb hf; simp [Rel.deps, Rel.dep1, Rel.ons, Region.binds, Act.eval] at hd; simp only [Act.eval, List.mem_cons, List.not_mem_nil, not_or, and_imp, or_false, Array.getD_eq_getD_getElem?] at hbase; go_simp; refine ⟨?_, ?_⟩; rfl; rfl)); (focus (intro W hb; go_at_call 53; exact HWI.out W)); (try simp only [List.nil_append, List.cons_append]))
  iterate 3 (apply Rel.op3; (focus (first | exact Rel.gno rfl | exact Rel.gyes _ true _ rfl rfl rfl | exact Rel.gyes _ false _ rfl rfl rfl)); (focus (intro a W hb hd hbase; obtain ⟨hc, hf⟩ := bcell hb; clear hb hf; simp [Rel.deps, Rel.dep1, Rel.ons, Region.binds, Act.eval] at hd; simp only [Act.eval, List.mem_cons, List.not_mem_nil, not_or, and_imp, or_false, Array.getD_eq_getD_getElem?] at hbase; go_simp; (try go_bits); (try rfl); done)); (try simp only [List.nil_append, List.cons_append]))
  (apply Rel.op3 (.bool false); (focus (first | exact Rel.gno rfl | exact Rel.gyes _ true _ rfl rfl rfl | exact Rel.gyes _ false _ rfl rfl rfl)); (focus (intro a W hb hd hbase; obtain ⟨hc, hf⟩ := bcell hb; clear hb hf; simp [Rel.deps, Rel.dep1, Rel.ons, Region.binds, Act.eval] at hd; simp only [Act.eval, List.mem_cons, List.not_mem_nil, not_or, and_imp, or_false, Array.getD_eq_getD_getElem?] at hbase; go_simp; (try go_bits); (try rfl); done)); (try simp only [List.nil_append, List.cons_append]))
  (apply Rel.call3; (focus (first | exact Rel.gno rfl | exact Rel.gyes _ true _ rfl rfl rfl | exact Rel.gyes _ false _ rfl rfl rfl)); (focus (intro a W hb hd hbase; obtain ⟨hc, hf⟩ := bcell hb; clear hb hf; simp [Rel.deps, Rel.dep1, Rel.ons, Region.binds, Act.eval] at hd; simp only [Act.eval, List.mem_cons, List.not_mem_nil, not_or, and_imp, or_false, Array.getD_eq_getD_getElem?] at hbase; go_simp; refine ⟨?_, ?_⟩; rfl; rfl)); (focus (intro W hb; go_at_call 61; exact HWH.out 5 W)); (try simp only [List.nil_append, List.cons_append]))
  refine Rel.done3 ?_
  intro x w2 hb2 hx
  simp only [Rel.facts, Nat.zero_add, Nat.reduceAdd] at hx
  obtain ⟨e0, e1, e2, e3, e4, e5, e6, e7, e8, e9, e10, _⟩ := hx
  simp only [Rel.fill, Nat.zero_add, Nat.reduceAdd, e0, e1, e2, e3, e4, e5, e6, e7, e8, e9, e10]
  simp only [Act.put, List.setIfInBounds_toArray, List.set_cons_zero, List.set_cons_succ]
  clear e0 e1 e2 e3 e4 e5 e6 e7 e8 e9 e10
  have HB2 := Lib.hid (HB1.out.trans (hb2.mono HB1.out.size))
  have K02 := Lib.hid (HK0.out.below hb2)
  clear hb2 a0 a1 a2 al af
  go_wp2_with (go_at_call 51; refine (HF3.out _).mono ?_; rintro r wx ⟨rfl, rfl⟩; refine Hid.out ?_)
  unfold Hid
  obtain ⟨a0, a1, a2, al, af⟩ := (K02.out.alloc (.cells #[(.int .i64 0), (.int .i64 0), (.int .i64 0)] 24)).o3
  go_wp2_with (go_at_call 90; refine name_calls ?_; intro w3 e3; refine Hid.out ?_)
  unfold Hid
  have h3 : Below w2.heap.size w2 w3 := by rw [e3]; exact bel
  have HB3 := Lib.hid (HB2.out.trans (h3.mono HB2.out.size))
  clear e3 h3 a0 a1 a2 al af
  refine (HCA.out w3 (HC.out.below HB3.out)).mono ?_
  rintro r w4 ⟨rfl, h4⟩
  have HB4 := Lib.hid (HB3.out.trans (h4.mono HB3.out.size))
  clear h4
  go_wp2
  go_ret
  exact ⟨rfl, HB4.out⟩
end Go.Proofs.Ytamldoidalnloaa

/- signal: with, checked, OfSequence, Sequence. -/
namespace Go.Proofs.Ytamldoidalnloaa
open Go.RowKit
open Calm (bcell Blk)
theorem EC.far {enc : Int → Value} {w : World} {A : Option Addr} {l : List Int} (h : EC enc w A l) {p : Addr} (hp : ∀ q, A = some q → q.block ≠ p.block) (v : Value) : EC enc (w.setCell p v) A l := fun h0 => by
  obtain ⟨b, o, rfl, hl, hc⟩ := h h0
  have e : (w.setCell p v).heap[b]? = w.heap[b]? := Below.heap_setCell _ _ _ _ (fun e => hp _ rfl e)
  exact ⟨b, o, rfl, by simpa using hl, fun k hk => (World.cell?_of_block (w := w) (a := ⟨b, o + k, none⟩) e).trans (hc k hk)⟩
set_option maxRecDepth 100000 in
set_option maxHeartbeats 4000000 in
theorem with_any (nm : ByteArray) (rate : Int) (l : List Int) (A A0 : Option Addr) (c N n0 c0 : Nat) (w : World) (hN : N = l.length) (hN5 : N ≤ 5000) (hl : flL l) (hC : EC encF w A l) :
    Calls Try.prog 91 #[.agg #[.string nm, (.int .i64 rate), .slice A0 n0 c0], .slice A N c] w fun r w' => (∃ B d, r = .returned (.agg #[.string nm, (.int .i64 rate), .slice B N d]) ∧ EC encF w' B l ∧ ∀ p, B = some p → w.heap.size ≤ p.block) ∧ Below w.heap.size w w' := by
  have HM : Hid (∀ W, EC encF W A l → Calls Try.prog 104 #[.slice A N c, .func (.func 105) #[] #[]] W fun r w' => (∃ B d, r = .returned (.slice B N d) ∧ EC encF w' B l ∧ ∀ p, B = some p → W.heap.size ≤ p.block) ∧ Below W.heap.size W w') := Lib.hid (fun W q => mapWith_any A l c N W hN hN5 hl q)
  have HC := Lib.hid hC
  clear hC hN hl
  go_enter Try.func91, Try.ntmps91
  go_wp2_with (go_at_call 104; refine name_calls ?_; intro w1 e1; refine Hid.out ?_)
  unfold Hid
  have K0 : Blk w1 w.heap.size #[.string nm, (.int .i64 rate), .slice A0 n0 c0] := by rw [e1]; (repeat (first | ((with_reducible refine Blk.at_ ?_); focus (first | rfl | (simp; done) | (simp; omega))) | (with_reducible refine Blk.alloc ?_ _) | (with_reducible refine Blk.below ?_ (by with_reducible assumption)) | (with_reducible refine Blk.drew ?_)))
  have K1 : Blk w1 (w.heap.size + 1) #[.string ⟨#[]⟩, (.int .i64 0), .slice none 0 0] := by rw [e1]; (repeat (first | ((with_reducible refine Blk.at_ ?_); focus (first | rfl | (simp; done) | (simp; omega))) | (with_reducible refine Blk.alloc ?_ _) | (with_reducible refine Blk.below ?_ (by with_reducible assumption)) | (with_reducible refine Blk.drew ?_)))
  have HB1 := Lib.hid (show Below w.heap.size w w1 by rw [e1]; exact bel)
  have HZ : w.heap.size + 1 < w1.heap.size := K1.lt
  clear e1
  refine (HM.out w1 (HC.out.below HB1.out)).mono ?_
  rintro r w2 ⟨⟨B, d, rfl, hb, hf⟩, h2⟩
  have HB2 := Lib.hid (HB1.out.trans (h2.mono HB1.out.size))
  have HK0 := Lib.hid (K0.below h2)
  have HK1 := Lib.hid (K1.below h2)
  have HBF := Lib.hid hb
  have HF := Lib.hid hf
  obtain ⟨a0, a1, a2, al, af⟩ := HK0.out.o3
  obtain ⟨b0, b1, b2, bl, bf⟩ := HK1.out.o3
  clear hb hf h2 K0 K1
  go_wp2
  refine name_post ?_
  intro wz ez
  have KZ : Blk wz (w.heap.size + 1) #[.string nm, (.int .i64 rate), .slice B N d] := by
    rw [ez]
    exact (((HK1.out.far (p := ⟨w.heap.size, 2, none⟩) (by simp) _).set (i := 0) (by simp) _).set (i := 1) (by simp) _).set (i := 2) (by simp) _
  have HCZ : EC encF wz B l := by
    rw [ez]
    exact (((HBF.out.far (p := ⟨w.heap.size, 2, none⟩) (fun q hq => by have := HF.out q hq; simp only; omega) _).far (p := ⟨w.heap.size + 1, 0, none⟩) (fun q hq => by have := HF.out q hq; simp only; omega) _).far (p := ⟨w.heap.size + 1, 1, none⟩) (fun q hq => by have := HF.out q hq; simp only; omega) _).far (p := ⟨w.heap.size + 1, 2, none⟩) (fun q hq => by have := HF.out q hq; simp only; omega) _
  have HBZ : Below w.heap.size w wz := by
    rw [ez]
    exact (((HB2.out.setCell (p := ⟨w.heap.size, 2, none⟩) (Nat.le_refl _) _).setCell (p := ⟨w.heap.size + 1, 0, none⟩) (by simp) _).setCell (p := ⟨w.heap.size + 1, 1, none⟩) (by simp) _).setCell (p := ⟨w.heap.size + 1, 2, none⟩) (by simp) _
  obtain ⟨k0, k1, k2, -, -⟩ := KZ.o3
  clear ez
  refine bodyPost_ret (v := .agg #[.string nm, (.int .i64 rate), .slice B N d]) (by simp [results, Try.results91, go_sem, k0, k1, k2]) rfl ⟨⟨B, d, rfl, HCZ, fun p hp => by have := HF.out p hp; omega⟩, HBZ⟩
set_option maxRecDepth 100000 in
set_option maxHeartbeats 4000000 in
theorem checked_any (nm : ByteArray) (rate : Int) (l : List Int) (A : Option Addr) (c N : Nat) (w : World) (hN : N = l.length) (hN5 : N ≤ 5000) (hl : flL l) (hC : EC encF w A l) :
    Calls Try.prog 57 #[.agg #[.string nm, (.int .i64 rate), .slice A N c]] w fun r w' => (∃ B d, r = .returned (.tuple #[.agg #[.string nm, (.int .i64 rate), .slice B N d], (.int .i64 0)]) ∧ EC encF w' B l ∧ ∀ p, B = some p → w.heap.size ≤ p.block) ∧ Below w.heap.size w w' := by
  have HW : Hid (∀ W, EC encF W A l → Calls Try.prog 91 #[.agg #[.string nm, (.int .i64 rate), .slice A N c], .slice A N c] W fun r w' => (∃ B d, r = .returned (.agg #[.string nm, (.int .i64 rate), .slice B N d]) ∧ EC encF w' B l ∧ ∀ p, B = some p → W.heap.size ≤ p.block) ∧ Below W.heap.size W w') := Lib.hid (fun W q => with_any nm rate l A A c N N c W hN hN5 hl q)
  have HCA : Hid (∀ W, EC encF W A l → Calls Try.prog 90 #[.slice A N c] W fun r w' => r = .returned (.int .i64 0) ∧ Below W.heap.size W w') := Lib.hid (fun W q => checkAll_ok l A c N W hN (by omega) hl q)
  have HC := Lib.hid hC
  clear hC hN hl
  go_enter Try.func57, Try.ntmps57
  go_wp2_with (go_at_call 90; refine name_calls ?_; intro w1 e1; refine Hid.out ?_)
  unfold Hid
  have K0 : Blk w1 w.heap.size #[.string nm, (.int .i64 rate), .slice A N c] := by rw [e1]; (repeat (first | ((with_reducible refine Blk.at_ ?_); focus (first | rfl | (simp; done) | (simp; omega))) | (with_reducible refine Blk.alloc ?_ _) | (with_reducible refine Blk.below ?_ (by with_reducible assumption)) | (with_reducible refine Blk.drew ?_)))
  have K1 : Blk w1 (w.heap.size + 1) #[.string ⟨#[]⟩, (.int .i64 0), .slice none 0 0] := by rw [e1]; (repeat (first | ((with_reducible refine Blk.at_ ?_); focus (first | rfl | (simp; done) | (simp; omega))) | (with_reducible refine Blk.alloc ?_ _) | (with_reducible refine Blk.below ?_ (by with_reducible assumption)) | (with_reducible refine Blk.drew ?_)))
  have HB1 := Lib.hid (show Below w.heap.size w w1 by rw [e1]; exact bel)
  have HZ : w.heap.size + 1 < w1.heap.size := K1.lt
  clear e1
  refine (HCA.out w1 (HC.out.below HB1.out)).mono ?_
  rintro r w2 ⟨rfl, h2⟩
  have HB2 := Lib.hid (HB1.out.trans (h2.mono HB1.out.size))
  have HK1 := Lib.hid (K1.below h2)
  have HK0 := Lib.hid (K0.below h2)
  obtain ⟨a0, a1, a2, al, af⟩ := HK0.out.o3
  have hz2 := h2.size
  clear h2 K0 K1
  go_wp2_with (go_at_call 91; refine (HW.out w2 (HC.out.below HB2.out)).mono ?_; rintro r w3 ⟨⟨B, d, rfl, hb, hf⟩, h3⟩; refine Hid.out ?_)
  unfold Hid
  have HB3 := Lib.hid (HB2.out.trans (h3.mono HB2.out.size))
  have HK13 := Lib.hid (HK1.out.below h3)
  have HBF := Lib.hid hb
  have HF := Lib.hid hf
  obtain ⟨b0, b1, b2, bl, bf⟩ := HK13.out.o3
  clear hb hf h3 a0 a1 a2 al af
  go_wp2
  refine name_post ?_
  intro wz ez
  have KZ : Blk wz (w.heap.size + 1) #[.string nm, (.int .i64 rate), .slice B N d] := by
    rw [ez]
    exact ((HK13.out.set (i := 0) (by simp) _).set (i := 1) (by simp) _).set (i := 2) (by simp) _
  have HCZ : EC encF wz B l := by
    rw [ez]
    exact ((HBF.out.far (p := ⟨w.heap.size + 1, 0, none⟩) (fun q hq => by have := HF.out q hq; simp only; omega) _).far (p := ⟨w.heap.size + 1, 1, none⟩) (fun q hq => by have := HF.out q hq; simp only; omega) _).far (p := ⟨w.heap.size + 1, 2, none⟩) (fun q hq => by have := HF.out q hq; simp only; omega) _
  have HBZ : Below w.heap.size w wz := by
    rw [ez]
    exact ((HB3.out.setCell (p := ⟨w.heap.size + 1, 0, none⟩) (by simp) _).setCell (p := ⟨w.heap.size + 1, 1, none⟩) (by simp) _).setCell (p := ⟨w.heap.size + 1, 2, none⟩) (by simp) _
  obtain ⟨k0, k1, k2, -, -⟩ := KZ.o3
  clear ez
  refine bodyPost_ret (v := .tuple #[.agg #[.string nm, (.int .i64 rate), .slice B N d], (.int .i64 0)]) (by simp [results, Try.results57, go_sem, k0, k1, k2]) rfl ⟨⟨B, d, rfl, HCZ, fun p hp => by have := HF.out p hp; omega⟩, HBZ⟩
set_option maxRecDepth 100000 in
set_option maxHeartbeats 4000000 in
theorem ofSequence_ok (nm : ByteArray) (rate : Int) (l : List Int) (A : Option Addr) (c N : Nat) (w : World) (hnm : NmOk nm) (hr : 1 ≤ rate ∧ rate ≤ 192000) (hN : N = l.length) (hN5 : N ≤ 4096) (hv : lvls l) (hl : flL l) (hC : Cells w A l) :
    Calls Try.prog 17 #[.string nm, (.int .i64 rate), .slice A N c] w fun r w' => (∃ B d, r = .returned (.tuple #[.agg #[.string nm, (.int .i64 rate), .slice B N d], (.int .i64 0)]) ∧ EC encF w' B l ∧ ∀ p, B = some p → w.heap.size ≤ p.block) ∧ Below w.heap.size w w' := by
  have HNM := Lib.hid hnm.call
  have HWI := Lib.hid (gRange_ok rate 1 192000 hr)
  have HF3 : Hid (∀ (W : World), Calls Try.prog 51 #[.slice (some ⟨W.heap.size, 0, none⟩) 3 3] (W.alloc (.cells #[(.int .i64 0), (.int .i64 0), (.int .i64 0)] 24)) fun r w' => r = .returned (.int .i64 0) ∧ (W.alloc (.cells #[(.int .i64 0), (.int .i64 0), (.int .i64 0)] 24)) = w') := Lib.hid (fun W => gFirst_cells [0, 0, 0] W (by simp))
  have HSQ : Hid (∀ W, Cells W A l → Calls Try.prog 54 #[.slice A N c] W fun r w' => r = .returned (.int .i64 0) ∧ Below W.heap.size W w') := Lib.hid (fun W q => gSequence_ok l A c N W hN q hN5 hv)
  have HM : Hid (∀ W, Cells W A l → Calls Try.prog 55 #[.slice A N c, .func (.func 56) #[] #[]] W fun r w' => (∃ B d, r = .returned (.slice B N d) ∧ EC encF w' B l ∧ ∀ p, B = some p → W.heap.size ≤ p.block) ∧ Below W.heap.size W w') := Lib.hid (fun W q => mapOf_any A l c N W hN (by omega) hl q)
  have HCK : Hid (∀ W B d, EC encF W B l → Calls Try.prog 57 #[.agg #[.string nm, (.int .i64 rate), .slice B N d]] W fun r w' => (∃ B d, r = .returned (.tuple #[.agg #[.string nm, (.int .i64 rate), .slice B N d], (.int .i64 0)]) ∧ EC encF w' B l ∧ ∀ p, B = some p → W.heap.size ≤ p.block) ∧ Below W.heap.size W w') := Lib.hid (fun W B d q => checked_any nm rate l B d N W hN (by omega) hl q)
  have HC := Lib.hid hC
  clear hC hN hl hv hr hnm
  go_enter Try.func17, Try.ntmps17
  go_wp2_with (go_at_call 52; refine name_calls ?_; intro w1 e1; refine Hid.out ?_)
  unfold Hid
  have K1 : Blk w1 w.heap.size #[.string ⟨#[]⟩, (.int .i64 0), .slice none 0 0] := by rw [e1]; (repeat (first | ((with_reducible refine Blk.at_ ?_); focus (first | rfl | (simp; done) | (simp; omega))) | (with_reducible refine Blk.alloc ?_ _) | (with_reducible refine Blk.below ?_ (by with_reducible assumption)) | (with_reducible refine Blk.drew ?_)))
  have HB1 := Lib.hid (show Below w.heap.size w w1 by rw [e1]; exact bel)
  have HZ : w.heap.size < w1.heap.size := K1.lt
  clear e1
  refine (HNM.out w1).mono ?_
  rintro r w2 ⟨rfl, h2⟩
  have HB2 := Lib.hid (HB1.out.trans (h2.mono HB1.out.size))
  have HK2 := Lib.hid (K1.below h2)
  clear h2 K1
  go_wp2_with (first
    | (go_at_call 53; refine (HWI.out _).mono ?_; rintro r w3 ⟨rfl, h3⟩; refine Hid.out ?_))
  unfold Hid
  have HB3 := Lib.hid (HB2.out.trans (h3.mono HB2.out.size))
  have HK3 := Lib.hid (HK2.out.below h3)
  clear h3
  go_wp2_with (go_at_call 54; refine (HSQ.out w3 (HC.out.below HB3.out)).mono ?_; rintro r w4 ⟨rfl, h4⟩; refine Hid.out ?_)
  unfold Hid
  have HB4 := Lib.hid (HB3.out.trans (h4.mono HB3.out.size))
  have HK4 := Lib.hid (HK3.out.below h4)
  clear h4
  go_wp2_with (first
    | (go_at_call 51; refine (HF3.out _).mono ?_; rintro r wx ⟨rfl, rfl⟩)
    | (go_at_call 55; refine name_calls ?_; intro w5 e5; refine Hid.out ?_))
  unfold Hid
  have h5 : Below w4.heap.size w4 w5 := by rw [e5]; exact bel
  have HB5 := Lib.hid (HB4.out.trans (h5.mono HB4.out.size))
  have HK5 := Lib.hid (HK4.out.below h5)
  clear e5 h5
  refine (HM.out w5 (HC.out.below HB5.out)).mono ?_
  rintro r w6 ⟨⟨B6, d6, rfl, hb6, hf6⟩, h6⟩
  have HB6 := Lib.hid (HB5.out.trans (h6.mono HB5.out.size))
  have HK6 := Lib.hid (HK5.out.below h6)
  have HC6 := Lib.hid hb6
  clear h6 hf6 hb6
  go_wp2_with (go_at_call 57; refine (HCK.out w6 B6 d6 HC6.out).mono ?_; rintro r w7 ⟨⟨B, d, rfl, hb, hf⟩, h7⟩; refine Hid.out ?_)
  unfold Hid
  have HB7 := Lib.hid (HB6.out.trans (h7.mono HB6.out.size))
  have HK7 := Lib.hid (HK6.out.below h7)
  have hz6 : w.heap.size < w6.heap.size := HK6.out.lt
  have HBF := Lib.hid hb
  have HF := Lib.hid hf
  obtain ⟨b0, b1, b2, bl, bf⟩ := HK7.out.o3
  clear hb hf h7
  go_wp2
  refine name_post ?_
  intro wz ez
  have KZ : Blk wz w.heap.size #[.string nm, (.int .i64 rate), .slice B N d] := by
    rw [ez]
    exact ((HK7.out.set (i := 0) (by simp) _).set (i := 1) (by simp) _).set (i := 2) (by simp) _
  have HCZ : EC encF wz B l := by
    rw [ez]
    exact ((HBF.out.far (p := ⟨w.heap.size, 0, none⟩) (fun q hq => by have := HF.out q hq; simp only; omega) _).far (p := ⟨w.heap.size, 1, none⟩) (fun q hq => by have := HF.out q hq; simp only; omega) _).far (p := ⟨w.heap.size, 2, none⟩) (fun q hq => by have := HF.out q hq; simp only; omega) _
  have HBZ : Below w.heap.size w wz := by
    rw [ez]
    exact ((HB7.out.setCell (p := ⟨w.heap.size, 0, none⟩) (by simp) _).setCell (p := ⟨w.heap.size, 1, none⟩) (by simp) _).setCell (p := ⟨w.heap.size, 2, none⟩) (by simp) _
  obtain ⟨k0, k1, k2, -, -⟩ := KZ.o3
  clear ez
  refine bodyPost_ret (v := .tuple #[.agg #[.string nm, (.int .i64 rate), .slice B N d], (.int .i64 0)]) (by simp [results, Try.results17, go_sem, k0, k1, k2]) rfl ⟨⟨B, d, rfl, HCZ, fun p hp => by have := HF.out p hp; omega⟩, HBZ⟩
set_option maxRecDepth 100000 in
set_option maxHeartbeats 4000000 in
theorem sequence_ok (nm : ByteArray) (rate : Int) (l : List Int) (A : Option Addr) (c N : Nat) (w : World) (hnm : NmOk nm) (hr : 1 ≤ rate ∧ rate ≤ 192000) (hN : N = l.length) (hN5 : N ≤ 4096) (hl : flL l) (hC : EC encF w A l) :
    Calls Try.prog 20 #[.agg #[.string nm, (.int .i64 rate), .slice A N c]] w fun r w' => (∃ B d, r = .returned (.tuple #[.slice B N d, (.int .i64 0)]) ∧ Cells w' B l ∧ ∀ p, B = some p → w.heap.size ≤ p.block) ∧ Below w.heap.size w w' := by
  have HCR : Hid (∀ W, EC encF W A l → Calls Try.prog 58 #[.agg #[.string nm, (.int .i64 rate), .slice A N c]] W fun r w' => r = .returned (.int .i64 0) ∧ Below W.heap.size W w') := Lib.hid (fun W q => checkRecord_ok nm rate l A c N W hnm hr hN hN5 hl q)
  have HM : Hid (∀ W, EC encF W A l → Calls Try.prog 64 #[.slice A N c, .func (.func 65) #[] #[]] W fun r w' => (∃ B d, r = .returned (.slice B N d) ∧ EC (Value.int .i64) w' B l ∧ ∀ p, B = some p → W.heap.size ≤ p.block) ∧ Below W.heap.size W w') := Lib.hid (fun W q => mapSeq_any A l c N W hN (by omega) hl q)
  have HC := Lib.hid hC
  clear hC hN hl hr hnm
  go_enter Try.func20, Try.ntmps20
  go_wp2_with (go_at_call 58; refine name_calls ?_; intro w1 e1; refine Hid.out ?_)
  unfold Hid
  have K0 : Blk w1 w.heap.size #[.string nm, (.int .i64 rate), .slice A N c] := by rw [e1]; (repeat (first | ((with_reducible refine Blk.at_ ?_); focus (first | rfl | (simp; done) | (simp; omega))) | (with_reducible refine Blk.alloc ?_ _) | (with_reducible refine Blk.below ?_ (by with_reducible assumption)) | (with_reducible refine Blk.drew ?_)))
  have HB1 := Lib.hid (show Below w.heap.size w w1 by rw [e1]; exact bel)
  clear e1
  refine (HCR.out w1 (HC.out.below HB1.out)).mono ?_
  rintro r w2 ⟨rfl, h2⟩
  have HB2 := Lib.hid (HB1.out.trans (h2.mono HB1.out.size))
  obtain ⟨a0, a1, a2, al, af⟩ := (K0.below h2).o3
  clear h2 K0
  go_wp2_with (go_at_call 64; refine (HM.out w2 (HC.out.below HB2.out)).mono ?_; rintro r w3 ⟨⟨B, d, rfl, hb, hf⟩, h3⟩; refine Hid.out ?_)
  unfold Hid
  have HB3 := Lib.hid (HB2.out.trans (h3.mono HB2.out.size))
  have HBF := Lib.hid hb
  have HF : Hid (∀ p, B = some p → w.heap.size ≤ p.block) := Lib.hid (fun p hp => Nat.le_trans HB2.out.size (hf p hp))
  clear hb hf h3 a0 a1 a2 al af
  go_wp2
  refine bodyPost_ret (v := .tuple #[.slice B N d, (.int .i64 0)]) (by simp [results, Try.results20, go_sem]) rfl ⟨⟨B, d, rfl, HBF.out.cells, HF.out⟩, HB3.out⟩
end Go.Proofs.Ytamldoidalnloaa

/- signal: the four bytes of a number: put, four. -/
namespace Go.Proofs.Ytamldoidalnloaa
open Go.RowKit
open Calm (bcell Blk)
/-- the four bytes of a number, the highest one first. -/
def be4 (u : Int) : List Int := [u / 16777216 % 256, u / 65536 % 256, u / 256 % 256, u % 256]
theorem or32 (p q : Int) (k : Nat) (hp : 0 ≤ p) (hq : 0 ≤ q) (hk : q < 2 ^ k) (hm : p * 2 ^ k < 4294967296) (hq2 : q < 4294967296) : bits .or .u32 (p * 2 ^ k) q = p * 2 ^ k + q := by
  obtain ⟨a, rfl⟩ := Int.eq_ofNat_of_zero_le hp
  obtain ⟨b, rfl⟩ := Int.eq_ofNat_of_zero_le hq
  have e : ((a : Int) * 2 ^ k) = ((a * 2 ^ k : Nat) : Int) := by simp
  have hb : b < 2 ^ k := by
    have : ((b : Nat) : Int) < ((2 ^ k : Nat) : Int) := by simpa using hk
    exact Int.ofNat_lt.1 this
  rw [e] at hm ⊢
  rw [u32_or_nat _ _ (by omega) (by omega), ← Nat.shiftLeft_eq, ← Nat.shiftLeft_add_eq_or_of_lt hb]
  simp
theorem or4 (y0 y1 y2 y3 : Int) (b0 : 0 ≤ y0 ∧ y0 < 256) (b1 : 0 ≤ y1 ∧ y1 < 256) (b2 : 0 ≤ y2 ∧ y2 < 256) (b3 : 0 ≤ y3 ∧ y3 < 256) :
    bits .or .u32 (bits .or .u32 (bits .or .u32 (y0 * 16777216) (y1 * 65536)) (y2 * 256)) y3 = y0 * 16777216 + y1 * 65536 + y2 * 256 + y3 := by
  have e1 : bits .or .u32 (y0 * 16777216) (y1 * 65536) = y0 * 16777216 + y1 * 65536 := or32 y0 (y1 * 65536) 24 (by omega) (by omega) (by omega) (by omega) (by omega)
  have e2 : bits .or .u32 ((y0 * 256 + y1) * 65536) (y2 * 256) = (y0 * 256 + y1) * 65536 + y2 * 256 := or32 (y0 * 256 + y1) (y2 * 256) 16 (by omega) (by omega) (by omega) (by omega) (by omega)
  have e3 : bits .or .u32 ((y0 * 65536 + y1 * 256 + y2) * 256) y3 = (y0 * 65536 + y1 * 256 + y2) * 256 + y3 := or32 (y0 * 65536 + y1 * 256 + y2) y3 8 (by omega) (by omega) (by omega) (by omega) (by omega)
  rw [e1, show y0 * 16777216 + y1 * 65536 = (y0 * 256 + y1) * 65536 by omega, e2, show (y0 * 256 + y1) * 65536 + y2 * 256 = (y0 * 65536 + y1 * 256 + y2) * 256 by omega, e3]
set_option maxRecDepth 100000 in
set_option maxHeartbeats 4000000 in
theorem put_any (u : Int) (hu : 0 ≤ u ∧ u < 4294967296) (s : Value) (xs : List Int) (base : Nat) (w : World) (ho : w.ownsRow base 5 1 s xs.length (xs.map encB)) (hb : base ≤ w.heap.size) (h5 : xs.length ≤ 90000) :
    Calls Try.prog 59 #[s, .int .u32 u] w fun r w' => ∃ v, r = .returned v ∧ w'.ownsRow base 5 1 v (xs ++ be4 u).length ((xs ++ be4 u).map encB) ∧ Below base w w' := by
  have HO := Lib.hid ho
  have HB := Lib.hid hb
  clear ho hb
  go_enter Try.func59, Try.ntmps59
  go_wp2_with (at_builtin; refine name_list ?_; intro w1 e1; refine Hid.out ?_)
  unfold Hid
  have h1 : Below w.heap.size w w1 := by rw [e1]; exact bel
  have K1 : Blk w1 w.heap.size #[.int .u8 (u / 16777216 % 256), .int .u8 (u / 65536 % 256), .int .u8 (u / 256 % 256), .int .u8 (u % 256)] := by rw [e1, show u / 16777216 % 256 = u / 16777216 by omega]; (repeat (first | ((with_reducible refine Blk.at_ ?_); focus (first | rfl | (simp; done) | (simp; omega))) | (with_reducible refine Blk.alloc ?_ _) | (with_reducible refine Blk.below ?_ (by with_reducible assumption)) | (with_reducible refine Blk.drew ?_)))
  have HO1 := Lib.hid (ownsRow_below HO.out h1)
  have HB1 := Lib.hid (h1.mono HB.out)
  have hs1 : base ≤ w1.heap.size := Nat.le_trans HB.out h1.size
  have hEC : EC encB w1 (some ⟨w.heap.size, 0, none⟩) (be4 u) := EC.blk K1 rfl
  clear e1 h1 K1
  refine wpList_appE eB encB_one rfl _ _ rfl base s xs rfl HO1.out _ 4 4 (be4 u) rfl rfl hEC (by omega) hs1 ?_
  intro v' w2 ho2 hg2
  have HB2 := Lib.hid (HB1.out.grown hg2 hs1 (fun j hj => (HO1.out.lt j hj).1))
  have HO2 := Lib.hid ho2
  clear ho2 hg2 hEC
  go_wp2
  go_ret
  exact ⟨_, rfl, HO2.out, HB2.out⟩
set_option maxRecDepth 100000 in
set_option maxHeartbeats 4000000 in
theorem four_any (u : Int) (hu : 0 ≤ u ∧ u < 4294967296) (xs : List Int) (b o N c : Nat) (w : World) (hN : N = (be4 u ++ xs).length) (hC : EC encB w (some ⟨b, o, none⟩) (be4 u ++ xs)) :
    Calls Try.prog 62 #[.slice (some ⟨b, o, none⟩) N c] w fun r w' => r = .returned (.int .u32 u) ∧ Below w.heap.size w w' := by
  obtain ⟨b', o', e, hl, hc⟩ := hC (by simp [be4])
  cases e
  have l : (be4 u ++ xs).length = xs.length + 4 := by simp [be4]; 
  obtain ⟨y0, h0⟩ : ∃ y, y = u / 16777216 % 256 := ⟨_, rfl⟩
  obtain ⟨y1, h1⟩ : ∃ y, y = u / 65536 % 256 := ⟨_, rfl⟩
  obtain ⟨y2, h2⟩ : ∃ y, y = u / 256 % 256 := ⟨_, rfl⟩
  obtain ⟨y3, h3⟩ : ∃ y, y = u % 256 := ⟨_, rfl⟩
  have x0 : w.cell? ⟨b, o, none⟩ = some (.int .u8 y0) := by rw [h0]; exact hc 0 (by omega)
  have x1 : w.cell? ⟨b, o + 1, none⟩ = some (.int .u8 y1) := by rw [h1]; exact hc 1 (by omega)
  have x2 : w.cell? ⟨b, o + 2, none⟩ = some (.int .u8 y2) := by rw [h2]; exact hc 2 (by omega)
  have x3 : w.cell? ⟨b, o + 3, none⟩ = some (.int .u8 y3) := by rw [h3]; exact hc 3 (by omega)
  have b0 : 0 ≤ y0 ∧ y0 < 256 := by omega
  have b1 : 0 ≤ y1 ∧ y1 < 256 := by omega
  have b2 : 0 ≤ y2 ∧ y2 < 256 := by omega
  have b3 : 0 ≤ y3 ∧ y3 < 256 := by omega
  have n0 : 0 < N := by omega
  have n1 : 1 < N := by omega
  have n2 : 2 < N := by omega
  have n3 : 3 < N := by omega
  have hN0 : (0 : Int) < (N : Int) := by omega
  have hN1 : (1 : Int) < (N : Int) := by omega
  have hN2 : (2 : Int) < (N : Int) := by omega
  have hN3 : (3 : Int) < (N : Int) := by omega
  have HU := Lib.hid (show u = y0 * 16777216 + y1 * 65536 + y2 * 256 + y3 by omega)
  have HN := Lib.hid hN
  clear hC hc h0 h1 h2 h3 hN l
  go_enter Try.func62, Try.ntmps62
  go_wp2
  refine Calm.tail_below 22 (by kernel_rfl) (by kernel_rfl) ?_
  simp only [List.take_succ_cons, List.take_zero, List.drop_succ_cons, List.drop_zero]
  repeat (first | (apply Calm.op_move; (focus rfl); (focus (first | exact .inl rfl | exact .inr rfl)); (focus ((try simp only [Act.eval, Array.getD_eq_getD_getElem?, List.getElem?_toArray, List.getElem?_cons_succ, List.getElem?_cons_zero, Option.getD_some]); rfl)); (try simp only [Act.put, List.setIfInBounds_toArray, List.set_cons_zero, List.set_cons_succ])) | (apply Calm.op_not; (focus rfl); (try simp only [Act.put, List.setIfInBounds_toArray, List.set_cons_zero, List.set_cons_succ])) | (apply Calm.op; (focus rfl); (focus (intro W hb; obtain ⟨hc, hf⟩ := bcell hb; clear hb hf; go_simp; (try go_bits); (try rfl); done)); (try simp only [Act.put, List.setIfInBounds_toArray, List.set_cons_zero, List.set_cons_succ])))
  refine wpQuiet_nil ?_
  intro w2 hb2
  obtain ⟨hb2c, hb2f⟩ := bcell hb2
  have hb2z := hb2.size
  (try simp at hb2z)
  (try have hb2z0 : w.heap.size < w2.heap.size := by omega)
  (try have hb2z1 : w.heap.size + 1 < w2.heap.size := by omega)
  (try have hb2z2 : w.heap.size + 1 + 1 < w2.heap.size := by omega)
  (try have hb2z3 : w.heap.size + 1 + 1 + 1 < w2.heap.size := by omega)
  (try have hb2z4 : w.heap.size + 1 + 1 + 1 + 1 < w2.heap.size := by omega)
  (try have hb2z5 : w.heap.size + 1 + 1 + 1 + 1 + 1 < w2.heap.size := by omega)
  have HB2 := Lib.hid hb2
  have HV := Lib.hid (or4 y0 y1 y2 y3 b0 b1 b2 b3)
  clear x0 x1 x2 x3 b0 b1 b2 b3
  go_wp2
  go_ret
  exact ⟨by rw [HV.out, HU.out]; rfl, HB2.out⟩
end Go.Proofs.Ytamldoidalnloaa
