/- Part 15 of the texts of the claim: LaidE, CeRow. -/
import Derived.Test.YtamldoidalnloaaGreatDoorCards
import Derived.Test.YtamldoidalnloaaGreatDoorTie
import Derived.Test.YtamldoidalnloaaGreatDoorMx14
import Derived.Test.YtamldoidalnloaaGreatDoorMx10
import Derived.Deep.DeepHandedRow
import Derived.Deep.Slices
import Derived.LaidMore
import Derived.Lib.LaidTab
import Derived.Shelf.Vars

/- TopCoilEchoes' row: what its list gives (the powers of ten); a world for the witness; its arguments opened. -/
namespace Go.Proofs.YtamldoidalnloaaGreatDoor
open Go.ChangeShapes Go.WideShapes Go.ChangeAt Go.RowKit Go.Flat
open Calm (bcell)
/-- the row's list. -/
noncomputable def laidList : List (String × DataW Unit) := [("math/bits.deBruijn32tab", Rows.laid_math_bits_deBruijn32tab), ("math/bits.deBruijn64tab", Rows.laid_math_bits_deBruijn64tab), ("internal/strconv.uint64pow10", Rows.laid_internal_strconv_uint64pow10), ("unicode/utf8.acceptRanges", Rows.laid_unicode_utf8_acceptRanges), ("strconv.ErrRange", Rows.laid_strconv_ErrRange), ("strconv.ErrSyntax", Rows.laid_strconv_ErrSyntax), ("unicode/utf8.first", Rows.laid_unicode_utf8_first)]
theorem own : ownKnob Tryz.prog.godebug = none := by kernel_rfl
theorem laidOut : laidOutB Tryz.prog = true := by kernel_rfl
theorem tyPowE : (Tryz.prog.globals[2]?).map (·.type) = some 140 := by kernel_rfl
set_option maxRecDepth 100000 in
theorem etab_of_laid {W : World} (h : laidMetH Tryz.prog laidList W) (hsh : W.ShapedOpen Tryz.prog) : ETab W := by
  obtain ⟨ps, hl, _, _⟩ : laidMet Tryz.prog laidList W := h
  obtain ⟨_, _, _, _, _, _, _, _, _, _, hl, _⟩ := hl
  obtain ⟨_, _, _, _, _, _, _, _, _, _, hl, _⟩ := hl
  obtain ⟨g2, t2, cs2, fuel2, p2, _, hg2, ht2, hv2, hd2, _, _⟩ := hl
  have hpow : Lib.TabIs Tryz.prog W "internal/strconv.uint64pow10" .u64 Lib.pow10Tab := by
    obtain rfl := Option.some.inj (gPowE.symm.trans hg2)
    obtain rfl := Option.some.inj (tyPowE.symm.trans ht2)
    have e : (Rows.laid_internal_strconv_uint64pow10 : DataW Unit) = Lib.tabData .u64 Lib.pow10Tab := by kernel_rfl
    rw [e] at hd2
    unfold Lib.TabIs
    rw [hv2, ← Lib.cells_of_tab Tryz.underlying140 Tryz.underlying123 (by kernel_rfl) (by kernel_rfl) hd2]
  obtain ⟨m, hm⟩ := cell_of_shapedOpen_int (P := Tryz.prog) (g := 1) (t := 3) (zero := #[(.int .i64 0)]) (k := .i64) hsh (of_decide_eq_true (by kernel_rfl)) (by kernel_rfl) rfl (by kernel_rfl) (by kernel_rfl) Tryz.underlying3
  exact ⟨hpow, cellF_lt hm, m, hm⟩
/-- the cells of a table of numbers. -/
def cellsData : DataW Unit → Array Value
  | .agg l => (l.map fun x => match x with | .lit (.int k n) => Value.int k n | _ => undef).toArray
  | _ => #[]
/-- the door's world, the library's table laid in it. -/
noncomputable def textDoor (os : Os) : World :=
  let w0 := World.doorLaid Tryz.prog 150 os
  { w0 with heap := w0.heap.modify 5 fun
      | .cells _ t frozen => .cells (cellsData Rows.laid_unicode_utf8_first) t frozen
      | o => o }
theorem laid_met (os : Os) (args : Array Value) : laidMetH Tryz.prog laidList ((textDoor os).forCall (fun _ _ => 0) ⟨#[], args, []⟩).memory :=
  laidMet_of_run' 8 (by kernel_rfl) (by kernel_rfl)
theorem text_vars (os : Os) (args : Array Value) : ((textDoor os).forCall (fun _ _ => 0) ⟨#[], args, []⟩).variablesB Tryz.prog = true := by kernel_rfl
theorem text_rest (os : Os) (args : Array Value) : (((textDoor os).forCall (fun _ _ => 0) ⟨#[], args, []⟩).heap.toList.drop Tryz.prog.globals.size).take ((begin Tryz.prog (fun _ _ => 0) default).world.heap.size - Tryz.prog.globals.size) =
      (begin Tryz.prog (fun _ _ => 0) default).world.heap.toList.drop Tryz.prog.globals.size := by kernel_rfl
section
variable {H : Type} {enc : TypeId × Value → H} {P : Program} {w : World} {base : Nat} {sp : Nat → Bool} {held : Bool}
theorem trod_fl {k : FloatKind} {fuel : Nat} {t : TypeId} {cs : List Value} {x : DataW H × List MemPlace} (ht : P.underlying t = some (.float k)) (h : DataW.trod enc P w base sp held fuel t cs = some x) : ∃ b, cs = [.float k b] ∧ (Lit.float k b).wf = true := by
  cases fuel with
  | zero => simp [DataW.trod] at h
  | succ n =>
    unfold DataW.trod at h
    rw [ht] at h
    split at h <;> simp_all
/-- a slice of samples. -/
theorem open_samples {t e : TypeId} {fuel : Nat} {cs : List Value} {x : DataW H × List MemPlace} (ht : P.underlying t = some (.slice e)) (he : P.underlying e = some (.float .f32)) (hk : P.cellsOf e = 1)
    (h : DataW.trod enc P w base sp held fuel t cs = some x) :
    ∃ (A : Option Addr) (cap : Nat) (bs : List Int), cs = [.slice A bs.length cap] ∧ bs.length ≤ cap ∧ cap ≤ maxLen ∧ bitsU bs ∧ EC encU w A bs := by
  rcases Deep.open_slice ht h with ⟨rfl, _⟩ | ⟨a, len, cap, m', n, D, Pl, rfl, _, h1, h2, h3, _, h4⟩
  · exact ⟨none, 0, [], rfl, Nat.le_refl _, Nat.zero_le _, fun _ h => absurd h (by simp), fun h => absurd h (by simp)⟩
  · have hlm : len ≤ m' := by rw [h3]; split <;> omega
    obtain ⟨zs, hzs⟩ := Deep.choose_lt (n := len) (α := Nat) (p := fun i z => z < 4294967296 ∧ w.cell? ((a.add (i * P.cellsOf e)).add 0) = some (.float .f32 z)) (fun i hi => by
      obtain ⟨cs', hc, hx⟩ := h4 i (by omega)
      obtain ⟨_, hl, hcell⟩ := World.cells?_some hc
      obtain ⟨b, hcs, hw⟩ := trod_fl he hx
      refine ⟨b, by simpa only [Lit.wf, decide_eq_true_eq] using hw, ?_⟩
      rw [hcell 0 (by omega), hcs]
      rfl)
    refine ⟨some a, cap, (List.range len).map fun i => ((zs i : Nat) : Int), by simp, by simpa using h1, h2, fun x hx => ?_, fun h0 => ?_⟩
    · obtain ⟨i, hi, rfl⟩ := List.mem_map.1 hx
      exact (hzs i (List.mem_range.1 hi)).1
    · have h0' : 0 < len := by simpa using h0
      obtain ⟨b, o, s⟩ := a
      have hs : s = none := by
        have := World.cell?_spot (hzs 0 h0').2
        simpa [Addr.add] using this
      subst hs
      refine ⟨b, o, rfl, ?_, fun i hi => ?_⟩
      · have := (hzs 0 h0').2
        rw [add_plain, add_plain] at this
        exact cellF_lt this
      · have hi' : i < len := by simpa using hi
        have := (hzs i hi').2
        rw [add_plain, add_plain, hk, Nat.mul_one, Nat.add_zero] at this
        rw [this]
        simp [List.getD, hi', encU]
end
set_option maxRecDepth 100000 in
/-- a record, opened. -/
theorem open_record {H : Type} {enc : TypeId × Value → H} {w : World} {base : Nat} {r : Reach} {b0 : Nat} {sp : Nat → Bool} {held : Bool} {v : Value} {d : DataW H} {p : List MemPlace}
    (hv : Value.okWide Tryz.prog w r b0 24 v) (hd : DataW.Trod enc Tryz.prog w base sp held 24 v d p) :
    ∃ (nm : ByteArray) (rate : Int) (A : Option Addr) (c : Nat) (bs : List Int), v = .agg #[.string nm, (.int .i64 rate), .slice A bs.length c] ∧ bs.length ≤ c ∧ c ≤ maxLen ∧ bitsU bs ∧ EC encU w A bs := by
  obtain ⟨cs, rfl, hsz⟩ := okWide_struct Tryz.underlying24 hv
  obtain ⟨fuel, hf⟩ := hd
  obtain ⟨xs, n, _, _, hl, hxl, hf⟩ := DataW.trod_struct Tryz.underlying24 hf
  rw [show Tryz.prog.cellsOf 24 = 3 by kernel_rfl] at hsz
  obtain ⟨l⟩ := cs
  match l, hsz with
  | [u0, u1, u2], _ =>
  match xs, hxl with
  | [x0, x1, x2], _ =>
  have h0 : DataW.trod enc Tryz.prog w base sp held n 9 [u0] = some x0 := hf 0 _ rfl
  have h1 : DataW.trod enc Tryz.prog w base sp held n 3 [u1] = some x1 := hf 1 _ rfl
  have h2 : DataW.trod enc Tryz.prog w base sp held n 22 [u2] = some x2 := hf 2 _ rfl
  obtain ⟨nm, e0, _, _⟩ := DataW.trod_string Tryz.underlying9 h0
  obtain ⟨rate, e1, _, _⟩ := DataW.trod_int Tryz.underlying3 h1
  obtain ⟨A1, c1, bs, e2, q1, q2, q3, k1⟩ := open_samples Tryz.underlying22 Tryz.underlying29 (by kernel_rfl) h2
  obtain rfl : u0 = _ := by simpa using e0
  obtain rfl : u1 = _ := by simpa using e1
  obtain rfl : u2 = _ := by simpa using e2
  exact ⟨nm, rate, A1, c1, bs, rfl, q1, q2, q3, k1⟩
theorem u8_of {x : Int} (h : (Lit.int .u8 x).wf = true) : 0 ≤ x ∧ x < 256 := by
  simp [Lit.wf] at h
  have h1 : IntKind.u8.min = 0 := by decide
  have h2 : IntKind.u8.max = 255 := by decide
  omega
theorem okWide_array {P : Program} {w : World} {r : Reach} {base : Nat} {t e : TypeId} {n : Nat} {v : Value} (ht : P.underlying t = some (.array n e)) (h : Value.okWide P w r base t v) : ∃ cs, v = .agg cs ∧ cs.size = P.cellsOf t := by
  simp only [Value.okWide, ht] at h
  obtain ⟨cs, h1, h2, _⟩ := h
  exact ⟨cs, h1, h2⟩
set_option maxRecDepth 100000 in
/-- two small numbers, opened. -/
theorem open_two8 {H : Type} {enc : TypeId × Value → H} {w : World} {base : Nat} {r : Reach} {b0 : Nat} {sp : Nat → Bool} {held : Bool} {v : Value} {d : DataW H} {p : List MemPlace}
    (hv : Value.okWide Tryz.prog w r b0 25 v) (hd : DataW.Trod enc Tryz.prog w base sp held 25 v d p) :
    ∃ x y : Nat, v = .agg #[.int .u8 (x : Int), .int .u8 (y : Int)] ∧ x < 256 ∧ y < 256 := by
  obtain ⟨cs, rfl, hsz⟩ := okWide_array Tryz.underlying25 hv
  obtain ⟨fuel, hf⟩ := hd
  obtain ⟨xs, n, _, hx, hl, hxl, hf⟩ := DataW.trod_array Tryz.underlying25 hf
  rw [show Tryz.prog.cellsOf 5 = 1 by kernel_rfl] at hf
  rw [show Tryz.prog.cellsOf 25 = 2 by kernel_rfl] at hsz
  obtain ⟨l⟩ := cs
  match l, hsz with
  | [u0, u1], _ =>
  match xs, hxl with
  | [x0, x1], _ =>
  have h0 : DataW.trod enc Tryz.prog w base sp held n 5 [u0] = some x0 := hf 0 (by omega)
  have h1 : DataW.trod enc Tryz.prog w base sp held n 5 [u1] = some x1 := hf 1 (by omega)
  obtain ⟨a, e0, _, f0⟩ := DataW.trod_int Tryz.underlying5 h0
  obtain ⟨b, e1, _, f1⟩ := DataW.trod_int Tryz.underlying5 h1
  have f0 := u8_of f0
  have f1 := u8_of f1
  obtain rfl : u0 = _ := by simpa using e0
  obtain rfl : u1 = _ := by simpa using e1
  obtain ⟨m0, rfl⟩ : ∃ m : Nat, a = (m : Int) := ⟨a.toNat, by omega⟩
  obtain ⟨m1, rfl⟩ : ∃ m : Nat, b = (m : Int) := ⟨b.toNat, by omega⟩
  exact ⟨m0, m1, rfl, by omega, by omega⟩
end Go.Proofs.YtamldoidalnloaaGreatDoor

/- TopCoilEchoes: whatever the record and the two numbers, it answers true. The row and its card. -/
namespace Go.Proofs.YtamldoidalnloaaGreatDoor.topCoilEchoes
open Go.ChangeShapes Go.WideShapes Go.ChangeAt Go.RowKit Go.Flat
open Calm (bcell)

set_option maxRecDepth 100000 in
theorem contract (H : Type) (enc : TypeId × Value → H) (W : World) (base : Nat) (args : Array Value) (ds gs : List (DataW H)) (before : List MemPlace)
    (hval : ∀ (j : Nat) t v, Tryz.f3.params[j]? = some t → args[j]? = some v → Value.okWide Tryz.prog W .any base t v)
    (hW : DataW.Whole enc Tryz.prog Tryz.f3.params.toList Rows.topCoilEchoesSpec.vars false W args.toList ds gs before) (hL : laidMetH Tryz.prog laidList W) (hsh : W.ShapedOpen Tryz.prog) :
    Calls Tryz.prog 3 args W fun e W' => ∃ v, e = .returned v ∧ Rows.topCoilEchoesSpec.post enc Tryz.prog Tryz.f3 false true false false W args v W' := by
  have hW' := hW
  have hlt : ∀ p ∈ before, p.block < W.heap.size := fun p hp => hW.lt p hp
  obtain ⟨p, q, hA0, hV, rfl, hfz, hnd⟩ := hW
  have hA : DataW.TrodAll enc Tryz.prog W 0 (fun _ => true) true Tryz.f3.params.toList args.toList ds p := hA0
  rw [Tryz.params3] at hA hval
  obtain ⟨v0, v1, d0, d1, p0, p1, rfl, rfl, rfl, h0, h1⟩ := trodAll_two hA
  obtain ⟨rfl, rfl⟩ := trodVars_none hV
  obtain ⟨nm, rate, A, c, bs, rfl, q1, q2, q3, k1⟩ := open_record (hval 0 _ _ rfl rfl) h0
  obtain ⟨x, y, rfl, hx, hy⟩ := open_two8 (hval 1 _ _ rfl rfl) h1
  refine (echoes_any nm rate bs A c bs.length x y W (etab_of_laid hL hsh) rfl (by unfold maxLen at q2; omega) q3 k1 hx hy).mono fun e W' ⟨he, hb⟩ => ?_
  subst he
  refine ⟨_, rfl, post_of_below (pa := p0 ++ p1) (pv := []) hW' (fun _ _ _ => trodAll_cons_mk (shut_bool Tryz.underlying4 _) trodAll_mk0) (fun sp hs => ?_) (fun _ _ => rfl) rfl hb (ok_one (by kernel_rfl) rfl (okWide_bool_mk Tryz.underlying4 _))⟩
  exact trodAll_below laidOut hb (by rw [Tryz.params3]; exact of_decide_eq_true (by kernel_rfl)) hA0 (fun x hx => hlt x (List.mem_append_left _ hx)) (fun x hx => hs x (List.mem_append_left _ hx))

/-- the witness: nothing. -/
noncomputable def wit : Array Value := #[.agg #[.string ⟨#[]⟩, (.int .i64 0), .slice none 0 0], .agg #[.int .u8 0, .int .u8 0]]
theorem reads (os : Os) {H : Type} (enc : TypeId × Value → H) : ∃ ds places, DataW.whole enc Tryz.prog ((textDoor os).forCall (fun _ _ => 0) ⟨#[], wit, []⟩).memory Tryz.f3.params.toList Rows.topCoilEchoesSpec.vars false wit.toList 8 = some (ds, [], places) :=
  ⟨[.agg [.lit (.string []), .lit (.int .i64 0), .nil], .agg [.lit (.int .u8 0), .lit (.int .u8 0)]], [], by kernel_rfl⟩

set_option maxRecDepth 100000 in
theorem lifted (os : Os) (started : os.Started) (H : Type) (enc : TypeId × Value → H) (F : Stop.Interp) :
    ReturnsInHanded {} Tryz.checked os 3 .any ((OpenSpec.ofChange Rows.topCoilEchoesSpec).preRow enc Tryz.prog Tryz.f3 Rows.topCoilEchoesRow.domain false Rows.topCoilEchoesRow.laid) (((OpenSpec.ofChange Rows.topCoilEchoesSpec).at F).post enc Tryz.prog Tryz.f3 false true false false) := by
  obtain ⟨ds, places, hx⟩ := reads os enc
  refine returnsInHanded_of_row (C := Tryz.checked) (s := OpenSpec.ofChange Rows.topCoilEchoesSpec) own started (by kernel_rfl) Tryz.func3
    (witness_row_at (enc := enc) (C := Tryz.checked) false (textDoor os) wit rfl (text_vars os _) (text_rest os _) (by kernel_rfl)
      (OpenSpec.preRow_of_cond 8 hx (by kernel_rfl) (fun k hk => by cases hk) (by kernel_rfl) (laid_met os _))) ?_
  intro W base args ds gs before hval hW _ _ _ hL hsh _
  exact contract H enc W base args ds gs before hval hW hL hsh

theorem said : Rows.TopCoilEchoesSaid :=
  OpenClaim.holds_of_cond 3 Tryz.f3 rfl rfl rfl rfl rfl rfl rfl ⟨rfl, rfl, rfl, rfl, rfl⟩ rfl rfl rfl rfl rfl (by kernel_rfl) Tryz.func3 (by kernel_rfl)
    (of_decide_eq_true (by kernel_rfl)) (by unfold Func.isWrapper; first | (rw [if_pos (by decide +kernel)]; kernel_rfl) | (rw [if_neg (by decide +kernel)]; exact ⟨rfl, rfl⟩))
    (fun os started H enc _ F => by rw [OpenClaim.pre_eq_preRow]; exact lifted os started H enc F)

theorem plain (f : FuncId) (fn : Func) (hf : Tryz.pinned.checked.prog.funcNamed "woofer/woofertop.TopCoilEchoes" = some f) (hfn : Tryz.pinned.checked.prog.funcs[f]? = some fn) :
    true = Tryz.pinned.checked.prog.looks [] ∧ ∀ (j : Nat) t, fn.params[j]? = some t → Tryz.pinned.checked.prog.wantsStandIn t = false := by
  obtain rfl : f = 3 := Option.some.inj ((show Tryz.prog.funcNamed "woofer/woofertop.TopCoilEchoes" = some 3 by kernel_rfl).symm.trans hf) |>.symm
  obtain rfl : fn = Tryz.f3 := (Option.some.inj (Tryz.func3.symm.trans hfn)).symm
  refine ⟨by kernel_rfl, fun j t ht => ?_⟩
  rw [Tryz.params3] at ht
  have hall : ∀ t ∈ (#[24, 25] : Array TypeId), Tryz.prog.wantsStandIn t = false := of_decide_eq_true (by kernel_rfl)
  exact hall t (Array.mem_of_getElem? ht)

theorem card : Rows.TopCoilEchoesCardSaid :=
  Claim7.holds_tied_plain_at .later [] _ _ _ _ said (fun _ h => by cases h) (by kernel_rfl) (fun _ h => by cases h) topCoilEchoes_row_tie rfl ⟨rfl, rfl⟩ (by kernel_rfl) rfl plain (by kernel_rfl)
end Go.Proofs.YtamldoidalnloaaGreatDoor.topCoilEchoes
