/- Part 18 of the texts of the claim: T13, T16, BkRow. -/
import Derived.Test.YtadcmjnebjgijaaGreatDoorMb17
import Derived.Lib.LaidTab
import Derived.Shelf.Vars
import Derived.ProofKit

/- DriverTexts answers yes, whatever its arguments. What the rows' list gives. -/
namespace Go.Proofs.YtadcmjnebjgijaaGreatDoor
open Go.ChangeShapes Go.WideShapes Go.ChangeAt Go.RowKit
open Go.Lib
open Calm (bcell)
set_option maxRecDepth 100000 in
set_option maxHeartbeats 4000000 in
theorem texts_no (re le bl ma st lo : Int) (s : ByteArray) (w : World) (hL : Lim w) (hs : 100 < s.size) (hs2 : ¬ s.size = 4097) :
    Calls Tryz.prog 3 #[.agg #[(.int .i64 (re)), (.int .i64 (le)), (.int .i64 (bl)), (.int .i64 (ma)), (.int .i64 (st)), (.int .i64 (lo))], .string s] w fun r w' => r = .returned (.bool true) ∧ Below w.heap.size w w' := by
  have hB0 := Below.refl w.heap.size w
  have q1 : ((s.size : Int) == 4097) = false := beq_eq_false_iff_ne.2 (by omega)
  have q2 : (100 : Int) < (s.size : Int) := by omega
  have q3 : ¬ (s.size : Int) = 4097 := by omega
  go_enter Tryz.func3, Tryz.ntmps3
  go_wp2_with (go_at_call 5; refine (awake_any _ (hL.below (hB0.alloc hB0.size _))).mono ?_; rintro r w1 ⟨rfl, h1⟩; refine Hid.out ?_)
  unfold Hid
  have hB1 := (hB0.alloc hB0.size _).trans (h1.mono (by simp))
  go_wp2_with (go_at_call 5; refine (awake_any _ (hL.below hB1)).mono ?_; rintro r w2 ⟨rfl, h2⟩; refine Hid.out ?_)
  unfold Hid
  go_wp2
  go_ret
  exact ⟨by first | rfl | (simp; done), hB1.trans (h2.mono hB1.size)⟩
theorem nat_of {x : Int} (h : 0 ≤ x) : ∃ n : Nat, x = n := ⟨x.toNat, by omega⟩
theorem DriverTexts_any (re le bl ma st lo : Int) (s : ByteArray) (w : World) (hT : Tab w) :
    Calls Tryz.prog 3 #[.agg #[(.int .i64 (re)), (.int .i64 (le)), (.int .i64 (bl)), (.int .i64 (ma)), (.int .i64 (st)), (.int .i64 (lo))], .string s] w fun r w' => r = .returned (.bool true) ∧ Below w.heap.size w w' := by
  by_cases hno : 100 < s.size ∧ ¬ s.size = 4097
  · exact texts_no re le bl ma st lo s w hT.lim hno.1 hno.2
  obtain ⟨a, b, c, d, e, f, E, hP⟩ := pres_ex s.data.toList
  have HPa := Lib.hid (fun (W : World) (h : Tab W) => parse_any hP s rfl W h)
  have HPb := Lib.hid (fun W : World => rparse_any hP s rfl W)
  have HCk := Lib.hid (fun W : World => refCheckDriver_any re le bl ma st lo W)
  by_cases h0 : drvErr re le bl ma st lo = 0
  · have HPr := Lib.hid (fun (W : World) (h : Tab W) => print_ok re le bl ma st lo W h h0)
    have HRp : Hid (∀ W : World, Calls Tryz.prog 9 #[.agg #[(.int .i64 (re)), (.int .i64 (le)), (.int .i64 (bl)), (.int .i64 (ma)), (.int .i64 (st)), (.int .i64 (lo))]] W fun r w' => r = .returned (.string ⟨(txtP [re, le, bl, ma, st, lo] 6).toArray⟩) ∧ Below W.heap.size W w') := by
      obtain ⟨⟨p1, q1⟩, ⟨p2, q2⟩, ⟨p3, q3⟩, ⟨p4, q4⟩, ⟨p5, q5⟩, ⟨p6, q6⟩⟩ := drvErr_zero h0
      obtain ⟨n1, rfl⟩ := nat_of (show 0 ≤ re by omega)
      obtain ⟨n2, rfl⟩ := nat_of (show 0 ≤ le by omega)
      obtain ⟨n3, rfl⟩ := nat_of (show 0 ≤ bl by omega)
      obtain ⟨n4, rfl⟩ := nat_of (show 0 ≤ ma by omega)
      obtain ⟨n5, rfl⟩ := nat_of (show 0 ≤ st by omega)
      obtain ⟨n6, rfl⟩ := nat_of (show 0 ≤ lo by omega)
      exact Lib.hid fun W => rprint_ok n1 n2 n3 n4 n5 n6 W (dec_len (by omega)) (dec_len (by omega)) (dec_len (by omega)) (dec_len (by omega)) (dec_len (by omega)) (dec_len (by omega)) (by omega) (by omega) (by omega) (by omega) (by omega) (by omega)
    rw [h0] at HCk
    by_cases h1 : s.size ≤ 100
    · exact texts_00 re le bl ma st lo a b c d e f E 0 s _ w hT h1 HPr HRp HCk HPa HPb
    · exact texts_10 re le bl ma st lo a b c d e f E 0 s _ w hT (Classical.byContradiction fun h => hno ⟨by omega, h⟩) HPr HRp HCk HPa HPb
  · have HPr := Lib.hid (fun (W : World) (h : Tab W) => print_no re le bl ma st lo W h.lim h0)
    by_cases h1 : s.size ≤ 100
    · exact texts_01 re le bl ma st lo a b c d e f E _ s s w hT h1 h0 HPr HCk HPa HPb
    · exact texts_11 re le bl ma st lo a b c d e f E _ s s w hT (Classical.byContradiction fun h => hno ⟨by omega, h⟩) h0 HPr HCk HPa HPb

/-- the list of the rows over texts. -/
noncomputable def laidText : List (String × DataW Unit) := [("math/bits.deBruijn32tab", Rows.laid_math_bits_deBruijn32tab), ("math/bits.deBruijn64tab", Rows.laid_math_bits_deBruijn64tab), ("internal/strconv.uint64pow10", Rows.laid_internal_strconv_uint64pow10), ("unicode/utf8.acceptRanges", Rows.laid_unicode_utf8_acceptRanges), ("strconv.ErrRange", Rows.laid_strconv_ErrRange), ("strconv.ErrSyntax", Rows.laid_strconv_ErrSyntax), ("woofer/driver.limits", Rows.laid_woofer_driver_limits), ("unicode/utf8.first", Rows.laid_unicode_utf8_first)]
theorem iface_of_trod {H : Type} {enc : TypeId × Value → H} {P : Program} {W : World} {base : Nat} {sp : Nat → Bool} {fuel : Nat} {t : TypeId} {ms : Array (String × TypeId)} {cs : List Value} {n : String} {d : DataW H} {p : List MemPlace} (ht : P.underlying t = some (.interface ms))
    (h : DataW.trod enc P W base sp false fuel t cs = some (.iface n d, p)) : ∃ u v, cs = [.iface u v] := by
  cases fuel with
  | zero => simp [DataW.trod] at h
  | succ k =>
    match cs, h with
    | [], h => simp [DataW.trod, ht] at h
    | [v], h => cases v <;> first | exact ⟨_, _, rfl⟩ | (simp [DataW.trod, ht] at h)
    | _ :: _ :: _, h => simp [DataW.trod, ht] at h
theorem tySyn : (Tryz.prog.globals[5]?).map (·.type) = some 147 := by kernel_rfl
theorem tyRng : (Tryz.prog.globals[6]?).map (·.type) = some 147 := by kernel_rfl
theorem tyPow : (Tryz.prog.globals[1]?).map (·.type) = some 164 := by kernel_rfl
set_option maxRecDepth 100000 in
theorem tab_of_laid {W : World} (h : laidMetH Tryz.prog laidText W) (hsh : W.ShapedOpen Tryz.prog) : Tab W := by
  obtain ⟨ps, hl, _, _⟩ : laidMet Tryz.prog laidText W := h
  obtain ⟨_, _, _, _, _, _, _, _, _, _, hl, _⟩ := hl
  obtain ⟨_, _, _, _, _, _, _, _, _, _, hl, _⟩ := hl
  obtain ⟨g2, t2, cs2, fuel2, p2, _, hg2, ht2, hv2, hd2, hl, _⟩ := hl
  obtain ⟨_, _, _, _, _, _, _, _, _, _, hl, _⟩ := hl
  obtain ⟨g4, t4, cs4, fuel4, p4, _, hg4, ht4, hv4, hd4, hl, _⟩ := hl
  obtain ⟨g5, t5, cs5, fuel5, p5, _, hg5, ht5, hv5, hd5, hl, _⟩ := hl
  obtain ⟨g, t, cs, fuel, p, q, hg, ht, hv, hd, _, _⟩ := hl
  have hlim : Lim W := by
    obtain rfl := Option.some.inj (gLim.symm.trans hg)
    have hi : Flat.intsB Tryz.prog 3 t = true := by
      have := gLimInts
      cases hgl : Tryz.prog.globals[0]? with
      | none => rw [hgl] at this; cases this
      | some gl =>
        rw [hgl] at this ht
        simp only [Option.map_some, Option.some.injEq] at this ht
        rwa [← ht]
    have hcs : cs.toList = [1, 50, 0, 10, 1, 20, 1, 100, 1, 5000, 1, 100].map (Value.int .i64) := (Flat.cells_of_ints 3 hi hd).1
    have hc : ∀ (i : Nat) (v : Value), cs[i]? = some v → W.cell? ⟨0, i, none⟩ = some v := fun i v hi => (World.var?_cell gLim hv i).trans hi
    have ha : cs = #[(.int .i64 (1)), (.int .i64 (50)), (.int .i64 (0)), (.int .i64 (10)), (.int .i64 (1)), (.int .i64 (20)), (.int .i64 (1)), (.int .i64 (100)), (.int .i64 (1)), (.int .i64 (5000)), (.int .i64 (1)), (.int .i64 (100))] := by
      apply Array.toList_inj.1
      exact hcs
    have hlt := var_lt gLim hv
    clear hcs hv
    subst ha
    exact ⟨hlt, hc 0 _ rfl, hc 1 _ rfl, hc 2 _ rfl, hc 3 _ rfl, hc 4 _ rfl, hc 5 _ rfl, hc 6 _ rfl, hc 7 _ rfl, hc 8 _ rfl, hc 9 _ rfl, hc 10 _ rfl, hc 11 _ rfl⟩
  have hpow : Lib.TabIs Tryz.prog W "internal/strconv.uint64pow10" .u64 Lib.pow10Tab := by
    obtain rfl := Option.some.inj (gPow.symm.trans hg2)
    obtain rfl := Option.some.inj (tyPow.symm.trans ht2)
    have e : (Rows.laid_internal_strconv_uint64pow10 : DataW Unit) = Lib.tabData .u64 Lib.pow10Tab := by kernel_rfl
    rw [e] at hd2
    unfold Lib.TabIs
    rw [hv2, ← Lib.cells_of_tab Tryz.underlying164 Tryz.underlying151 (by kernel_rfl) (by kernel_rfl) hd2]
  have h4 : ∃ tp x, W.var? Tryz.prog "strconv.ErrRange" = some #[.iface tp x] := by
    obtain rfl := Option.some.inj (gRng.symm.trans hg4)
    obtain rfl := Option.some.inj (tyRng.symm.trans ht4)
    obtain ⟨u, v, e⟩ := iface_of_trod Tryz.underlying147 hd4
    exact ⟨u, v, by rw [hv4, show cs4 = #[.iface u v] from Array.toList_inj.1 e]⟩
  have h5 : ∃ tp x, W.var? Tryz.prog "strconv.ErrSyntax" = some #[.iface tp x] := by
    obtain rfl := Option.some.inj (gSyn.symm.trans hg5)
    obtain rfl := Option.some.inj (tySyn.symm.trans ht5)
    obtain ⟨u, v, e⟩ := iface_of_trod Tryz.underlying147 hd5
    exact ⟨u, v, by rw [hv5, show cs5 = #[.iface u v] from Array.toList_inj.1 e]⟩
  obtain ⟨m, hm⟩ := cell_of_shapedOpen_int (P := Tryz.prog) (g := 2) (t := 3) (zero := #[(.int .i64 (0))]) (k := .i64) hsh (of_decide_eq_true (by kernel_rfl)) (by kernel_rfl) rfl (by kernel_rfl) (by kernel_rfl) Tryz.underlying3
  refine ⟨hlim, hpow, h5, h4, ?_, m, hm⟩
  rcases Nat.lt_or_ge 2 W.heap.size with h' | h'
  · exact h'
  · unfold World.cell? at hm
    rw [show W.heap[(⟨2, 0, none⟩ : Addr).block]? = none from Array.getElem?_eq_none h'] at hm
    cases hm
/-- the cells of a table of numbers. -/
def cellsData : DataW Unit → Array Value
  | .agg l => (l.map fun x => match x with | .lit (.int k n) => Value.int k n | _ => undef).toArray
  | _ => #[]
/-- the door's world, the library's table laid in it. -/
noncomputable def textDoor (os : Os) : World :=
  let w0 := World.doorLaid Tryz.prog 150 os
  { w0 with heap := w0.heap.modify 3 fun
      | .cells _ t frozen => .cells (cellsData Rows.laid_unicode_utf8_first) t frozen
      | o => o }
theorem laid_text_met (os : Os) (args : Array Value) : laidMetH Tryz.prog laidText ((textDoor os).forCall (fun _ _ => 0) ⟨#[], args, []⟩).memory :=
  laidMet_of_run' 8 (by kernel_rfl) (by kernel_rfl)
theorem text_vars (os : Os) (args : Array Value) : ((textDoor os).forCall (fun _ _ => 0) ⟨#[], args, []⟩).variablesB Tryz.prog = true := by kernel_rfl
theorem text_rest (os : Os) (args : Array Value) : (((textDoor os).forCall (fun _ _ => 0) ⟨#[], args, []⟩).heap.toList.drop Tryz.prog.globals.size).take ((begin Tryz.prog (fun _ _ => 0) default).world.heap.size - Tryz.prog.globals.size) =
      (begin Tryz.prog (fun _ _ => 0) default).world.heap.toList.drop Tryz.prog.globals.size := by kernel_rfl
end Go.Proofs.YtadcmjnebjgijaaGreatDoor

/- DriverBack answers yes, whatever its arguments. -/
namespace Go.Proofs.YtadcmjnebjgijaaGreatDoor
open Go.RowKit
open Go.Lib
theorem DriverBack_any (re le bl ma st lo : Int) (s : ByteArray) (w : World) (hT : Tab w) :
    Calls Tryz.prog 4 #[.agg #[(.int .i64 (re)), (.int .i64 (le)), (.int .i64 (bl)), (.int .i64 (ma)), (.int .i64 (st)), (.int .i64 (lo))], .string s] w fun r w' => r = .returned (.bool true) ∧ Below w.heap.size w w' := by
  have HCk := Lib.hid (fun W : World => refCheckDriver_any re le bl ma st lo W)
  by_cases h0 : drvErr re le bl ma st lo = 0
  rotate_left
  · exact back_no0 re le bl ma st lo _ s w hT.lim h0 HCk
  rw [h0] at HCk
  by_cases hs : 100 < s.size
  · exact back_no1 re le bl ma st lo 0 s w hT.lim hs HCk
  have HPr := Lib.hid (fun (W : World) (h : Tab W) => print_ok re le bl ma st lo W h h0)
  obtain ⟨⟨p1, q1⟩, ⟨p2, q2⟩, ⟨p3, q3⟩, ⟨p4, q4⟩, ⟨p5, q5⟩, ⟨p6, q6⟩⟩ := drvErr_zero h0
  obtain ⟨n1, rfl⟩ := nat_of (show 0 ≤ re by omega)
  obtain ⟨n2, rfl⟩ := nat_of (show 0 ≤ le by omega)
  obtain ⟨n3, rfl⟩ := nat_of (show 0 ≤ bl by omega)
  obtain ⟨n4, rfl⟩ := nat_of (show 0 ≤ ma by omega)
  obtain ⟨n5, rfl⟩ := nat_of (show 0 ≤ st by omega)
  obtain ⟨n6, rfl⟩ := nat_of (show 0 ≤ lo by omega)
  have l1 := dec_len (show n1 < 1000000000 by omega)
  have l2 := dec_len (show n2 < 1000000000 by omega)
  have l3 := dec_len (show n3 < 1000000000 by omega)
  have l4 := dec_len (show n4 < 1000000000 by omega)
  have l5 := dec_len (show n5 < 1000000000 by omega)
  have l6 := dec_len (show n6 < 1000000000 by omega)
  have ht : (txtP [(n1 : Int), (n2 : Int), (n3 : Int), (n4 : Int), (n5 : Int), (n6 : Int)] 6).length ≤ 1000 := by
    rw [txt_eq]
    simp only [List.length_append, List.length_cons]
    have : drvW.length = 6 := rfl
    omega
  have ht : (⟨(txtP [(n1 : Int), (n2 : Int), (n3 : Int), (n4 : Int), (n5 : Int), (n6 : Int)] 6).toArray⟩ : ByteArray).size ≤ 1000 := ht
  have HP1 := Lib.hid (fun (W : World) (h : Tab W) => parse_any (parse_print h0 l1 l2 l3 l4 l5 l6) ⟨(txtP [(n1 : Int), (n2 : Int), (n3 : Int), (n4 : Int), (n5 : Int), (n6 : Int)] 6).toArray⟩ rfl W h)
  have HP2 := Lib.hid (fun (W : World) (h : Tab W) => parse_any (parse_lf (n1 := n1) (n2 := n2) (n3 := n3) (n4 := n4) (n5 := n5) (n6 := n6) l1 l2 l3 l4 l5 l6) (⟨(txtP [(n1 : Int), (n2 : Int), (n3 : Int), (n4 : Int), (n5 : Int), (n6 : Int)] 6).toArray⟩ ++ ⟨#[10]⟩) (by simp) W h)
  obtain ⟨a, b, c, d, e, f, E, hP⟩ := pres_ex s.data.toList
  have HPs := Lib.hid (fun (W : World) (h : Tab W) => parse_any hP s rfl W h)
  by_cases hE : E = 0
  · subst hE
    obtain ⟨k0, k1⟩ := print_parse hP
    have HPy : Hid (∀ W : World, Tab W → Calls Tryz.prog 6 #[.agg #[(.int .i64 (a)), (.int .i64 (b)), (.int .i64 (c)), (.int .i64 (d)), (.int .i64 (e)), (.int .i64 (f))]] W fun r w' => r = .returned (.tuple #[.string s, (.int .i64 (0))]) ∧ Below W.heap.size W w') := Lib.hid fun W h => by
      have := print_ok a b c d e f W h k0
      rw [k1] at this
      exact this
    exact back_ok n1 n2 n3 n4 n5 n6 a b c d e f 0 s _ w hT (by omega) ht HCk HPr HP1 HP2 HPs HPy
  · exact back_bad n1 n2 n3 n4 n5 n6 a b c d e f E s _ w hT (by omega) ht hE HCk HPr HP1 HP2 HPs
end Go.Proofs.YtadcmjnebjgijaaGreatDoor

/- DriverBack: the row and its card. -/
namespace Go.Proofs.YtadcmjnebjgijaaGreatDoor.driverBack
open Go.ChangeShapes Go.WideShapes Go.ChangeAt Go.RowKit Go.Flat
open Go.ChangeMaps (open_string shut_string)
open Calm (bcell)

set_option maxRecDepth 100000 in
theorem contract (H : Type) (enc : TypeId × Value → H) (W : World) (base : Nat) (args : Array Value) (ds gs : List (DataW H)) (before : List MemPlace)
    (hval : ∀ (j : Nat) t v, Tryz.f4.params[j]? = some t → args[j]? = some v → Value.okWide Tryz.prog W .any base t v)
    (hW : DataW.Whole enc Tryz.prog Tryz.f4.params.toList Rows.driverBackSpec.vars false W args.toList ds gs before) (hL : laidMetH Tryz.prog laidText W) (hsh : W.ShapedOpen Tryz.prog) :
    Calls Tryz.prog 4 args W fun e W' => ∃ v, e = .returned v ∧ Rows.driverBackSpec.post enc Tryz.prog Tryz.f4 false true false false W args v W' := by
  have hW' := hW
  have hlt : ∀ p ∈ before, p.block < W.heap.size := fun p hp => hW.lt p hp
  obtain ⟨p, q, hA0, hV, rfl, hfz, hnd⟩ := hW
  have hA : DataW.TrodAll enc Tryz.prog W 0 (fun _ => true) true Tryz.f4.params.toList args.toList ds p := hA0
  rw [Tryz.params4] at hA hval
  obtain ⟨v0, v1, d0, d1, p0, p1, rfl, rfl, rfl, h0, h1⟩ := trodAll_two hA
  obtain ⟨rfl, rfl⟩ := trodVars_none hV
  obtain ⟨z0, hz0, rfl, rfl⟩ := open_ints 4 Tryz.underlying23 (by kernel_rfl) (hval 0 _ _ rfl rfl) h0
  rw [show Tryz.prog.cellsOf 23 = 6 by kernel_rfl] at hz0
  obtain ⟨s, rfl, rfl, rfl, _⟩ := open_string Tryz.underlying9 (hval 1 _ _ rfl rfl) h1
  match z0, hz0 with
  | [d1, d2, d3, d4, d5, d6], _ =>
  refine (DriverBack_any d1 d2 d3 d4 d5 d6 s W (tab_of_laid hL hsh)).mono fun e W' ⟨he, hb⟩ => ?_
  subst he
  refine ⟨_, rfl, post_of_below (pa := [] ++ []) (pv := []) hW' (fun _ _ _ => trodAll_cons_mk (shut_bool Tryz.underlying4 _) trodAll_mk0) (fun sp hs => ?_) (fun _ _ => rfl) rfl hb (ok_one (by kernel_rfl) rfl (okWide_bool_mk Tryz.underlying4 _))⟩
  exact trodAll_below laidOut hb (by rw [Tryz.params4]; exact of_decide_eq_true (by kernel_rfl)) hA0 (fun x hx => hlt x (List.mem_append_left _ hx)) (fun x hx => hs x (List.mem_append_left _ hx))

/-- the witness: nothing. -/
noncomputable def wit : Array Value := #[.agg #[(.int .i64 (0)), (.int .i64 (0)), (.int .i64 (0)), (.int .i64 (0)), (.int .i64 (0)), (.int .i64 (0))], .string ⟨#[]⟩]
theorem reads (os : Os) {H : Type} (enc : TypeId × Value → H) : ∃ ds places, DataW.whole enc Tryz.prog ((textDoor os).forCall (fun _ _ => 0) ⟨#[], wit, []⟩).memory Tryz.f4.params.toList Rows.driverBackSpec.vars false wit.toList 8 = some (ds, [], places) :=
  ⟨[.agg (List.replicate 6 (.lit (.int .i64 0))), .lit (.string [])], [], by kernel_rfl⟩

set_option maxRecDepth 100000 in
theorem lifted (os : Os) (started : os.Started) (H : Type) (enc : TypeId × Value → H) (F : Stop.Interp) :
    ReturnsInHanded {} Tryz.checked os 4 .any ((OpenSpec.ofChange Rows.driverBackSpec).preRow enc Tryz.prog Tryz.f4 Rows.driverBackRow.domain false Rows.driverBackRow.laid) (((OpenSpec.ofChange Rows.driverBackSpec).at F).post enc Tryz.prog Tryz.f4 false true false false) := by
  obtain ⟨ds, places, hx⟩ := reads os enc
  refine returnsInHanded_of_row (C := Tryz.checked) (s := OpenSpec.ofChange Rows.driverBackSpec) own started (by kernel_rfl) Tryz.func4
    (witness_row_at (enc := enc) (C := Tryz.checked) false (textDoor os) wit rfl (text_vars os _) (text_rest os _) (by kernel_rfl)
      (OpenSpec.preRow_of_cond 8 hx (by kernel_rfl) (fun k hk => by cases hk) (by kernel_rfl) (laid_text_met os _))) ?_
  intro W base args ds gs before hval hW _ _ _ hL hsh _
  exact contract H enc W base args ds gs before hval hW hL hsh

theorem said : Rows.DriverBackSaid :=
  OpenClaim.holds_of_cond 4 Tryz.f4 rfl rfl rfl rfl rfl rfl rfl ⟨rfl, rfl, rfl, rfl, rfl⟩ rfl rfl rfl rfl rfl (by kernel_rfl) Tryz.func4 (by kernel_rfl)
    (of_decide_eq_true (by kernel_rfl)) (by unfold Func.isWrapper; first | (rw [if_pos (by decide +kernel)]; kernel_rfl) | (rw [if_neg (by decide +kernel)]; exact ⟨rfl, rfl⟩))
    (fun os started H enc _ F => by rw [OpenClaim.pre_eq_preRow]; exact lifted os started H enc F)

theorem plain (f : FuncId) (fn : Func) (hf : Tryz.pinned.checked.prog.funcNamed "woofer/wooferlaw03.DriverBack" = some f) (hfn : Tryz.pinned.checked.prog.funcs[f]? = some fn) :
    true = Tryz.pinned.checked.prog.looks [] ∧ ∀ (j : Nat) t, fn.params[j]? = some t → Tryz.pinned.checked.prog.wantsStandIn t = false := by
  obtain rfl : f = 4 := Option.some.inj ((show Tryz.prog.funcNamed "woofer/wooferlaw03.DriverBack" = some 4 by kernel_rfl).symm.trans hf) |>.symm
  obtain rfl : fn = Tryz.f4 := (Option.some.inj (Tryz.func4.symm.trans hfn)).symm
  refine ⟨by kernel_rfl, fun j t ht => ?_⟩
  rw [Tryz.params4] at ht
  have hall : ∀ t ∈ (#[23, 9] : Array TypeId), Tryz.prog.wantsStandIn t = false := of_decide_eq_true (by kernel_rfl)
  exact hall t (Array.mem_of_getElem? ht)

theorem card : Rows.DriverBackCardSaid :=
  Claim7.holds_tied_plain_at .later [] _ _ _ _ said (fun _ h => by cases h) (by kernel_rfl) (fun _ h => by cases h) driverBack_row_tie rfl ⟨rfl, rfl⟩ (by kernel_rfl) rfl plain (by kernel_rfl)
end Go.Proofs.YtadcmjnebjgijaaGreatDoor.driverBack
