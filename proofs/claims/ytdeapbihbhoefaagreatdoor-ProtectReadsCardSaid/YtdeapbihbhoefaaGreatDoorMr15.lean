/- Part 15 of the texts of the claim: Flat, J4, J5, QK, QO, QL, QR, Shelf. -/
import Derived.WalkKit
import Derived.ProofKit
import Derived.OpenShut
import Derived.Lib.LaidTab
import Derived.Below
import Derived.Carry
import Derived.ChangeSame
import Derived.Test.YtdeapbihbhoefaaGreatDoorMr9
import Derived.BigRegion
import Derived.Test.YtdeapbihbhoefaaGreatDoorMr2
import Derived.Test.YtdeapbihbhoefaaGreatDoorMr13
import Derived.Test.YtdeapbihbhoefaaGreatDoorMr14
import Derived.Shelf.Strings.Builder1
import Derived.Shelf.Strings.Builder2
import Derived.Shelf.Strings.OnBuilder
import Derived.Shelf.Small.Wraps
import Derived.Shelf.Utf8.RuneCount
import Derived.Shelf.Strconv.Itoa0
import Derived.Shelf.Strconv.Itoa1
import Derived.Shelf.LaysM
import Derived.Shelf.Strconv.Itoa2
import Derived.Shelf.Strconv.Itoa3
import Derived.Shelf.Strings.Search1
import Derived.Shelf.Strings.Search2
import Derived.Shelf.Strings.Search3
import Derived.Shelf.Strings.Count
import Derived.Shelf.Strings.Shaped
import Derived.Shelf.Strings.Prefix
import Derived.Shelf.Strings.Split
import Derived.Shelf.Strings.SplitShaped
import Derived.Shelf.Unicode.Decode
import Derived.Shelf.Strings.RuneCount
import Derived.Shelf.Strings.Explode
import Derived.Shelf.Unicode.DecodeSlow
import Derived.Shelf.Unicode.DecodeAny
import Derived.Ground.Names2Prog
import Derived.Shelf.Slices.Clone
import Derived.Ground.SlgnProg
import Derived.Shelf.SlicesE.Clone
import Derived.Test.YtdeapbihbhoefaaGreatDoorProg

/- A value of integers alone (structs and arrays of integers, nested): its cells are its integers, one behind another. And the row's last step under 'Below'. Of no program. -/
namespace Go.Flat
open Go.ChangeShapes Go.WideShapes Go.RowKit

def sideB : List (Nat × Nat) → Nat → Nat → Bool
  | [], off, tot => off == tot
  | (o, c) :: l, off, tot => o == off && sideB l (off + c) tot
/-- the type is made of integers alone, lying side by side. -/
def intsB (P : Program) : Nat → TypeId → Bool
  | 0, _ => false
  | n + 1, t => match P.underlying t with
    | some (.int .i64) => true
    | some (.struct fs) => sideB (fs.toList.map fun f => (f.offset, P.cellsOf f.type)) 0 (P.cellsOf t) && fs.toList.all fun f => intsB P n f.type
    | some (.array k e) => sideB ((List.range k).map fun i => (i * P.cellsOf e, P.cellsOf e)) 0 (P.cellsOf t) && intsB P n e
    | _ => false
/-- the integers of a datum. -/
def flat {H : Type} : Nat → DataW H → List Int
  | 0, _ => []
  | n + 1, .agg ds => ds.flatMap (flat n)
  | _ + 1, .lit (.int _ z) => [z]
  | _ + 1, _ => []

theorem side_cells {cs : List Value} : ∀ (l : List (Nat × Nat)) (zs : List (List Int)) (off : Nat), sideB l off cs.length = true → zs.length = l.length →
    (∀ (i o c : Nat), l[i]? = some (o, c) → ∃ z, zs[i]? = some z ∧ (cs.drop o).take c = z.map (Value.int .i64)) → cs.drop off = zs.flatten.map (Value.int .i64)
  | [], zs, off, hs, hl, _ => by
    obtain rfl : zs = [] := by simpa using hl
    have : off = cs.length := by simpa [sideB] using hs
    subst this
    simp
  | (o, c) :: l, zs, off, hs, hl, hf => by
    obtain ⟨z, zs', rfl⟩ : ∃ z zs', zs = z :: zs' := by
      cases zs with
      | nil => simp at hl
      | cons z zs' => exact ⟨z, zs', rfl⟩
    simp only [sideB, Bool.and_eq_true, beq_iff_eq] at hs
    obtain ⟨rfl, hs⟩ := hs
    obtain ⟨z', hz', h0⟩ := hf 0 o c rfl
    obtain rfl : z = z' := by simpa using hz'
    have ih := side_cells l zs' (o + c) hs (by simpa using hl) (fun i o' c' h => by simpa using hf (i + 1) o' c' (by simpa using h))
    calc cs.drop o = (cs.drop o).take c ++ (cs.drop o).drop c := (List.take_append_drop _ _).symm
      _ = _ := by rw [h0, List.drop_drop, ih]; simp

theorem cells_of_ints {H : Type} {enc : TypeId × Value → H} {P : Program} {w : World} {base : Nat} {sp : Nat → Bool} {held : Bool} :
    ∀ (m : Nat) {fuel : Nat} {t : TypeId} {cs : List Value} {x : DataW H × List MemPlace}, intsB P m t = true → DataW.trod enc P w base sp held fuel t cs = some x → cs = (flat m x.1).map (Value.int .i64) ∧ x.2 = []
  | 0, _, _, _, _, h, _ => by simp [intsB] at h
  | m + 1, fuel, t, cs, x, h, hx => by
    unfold intsB at h
    split at h
    · rename_i ht
      obtain ⟨z, rfl, rfl, _⟩ := DataW.trod_int ht hx
      exact ⟨rfl, rfl⟩
    · rename_i fs ht
      obtain ⟨xs, n, _, rfl, hl, hxl, hf⟩ := DataW.trod_struct ht hx
      simp only [Bool.and_eq_true, List.all_eq_true] at h
      obtain ⟨hs, hi⟩ := h
      have key : ∀ (i : Nat) (f : Field) (y : DataW H × List MemPlace), fs.toList[i]? = some f → xs[i]? = some y → (cs.drop f.offset).take (P.cellsOf f.type) = (flat m y.1).map (Value.int .i64) ∧ y.2 = [] := fun i f y hfi hy =>
        cells_of_ints m (hi f (List.mem_of_getElem? hfi)) ((hf i f (by simpa using hfi)).trans hy)
      have hlen : xs.length = fs.toList.length := by simpa using hxl
      refine ⟨?_, ?_⟩
      · have := side_cells (cs := cs) (fs.toList.map fun f => (f.offset, P.cellsOf f.type)) (xs.map fun y => flat m y.1) 0 (by rw [hl]; exact hs) (by simpa using hxl) (fun i o c hi' => by
          simp only [List.getElem?_map, Option.map_eq_some_iff] at hi'
          obtain ⟨f, hf1, hf2⟩ := hi'
          have hlt : i < xs.length := hlen ▸ (List.getElem?_eq_some_iff.1 hf1).1
          have hy : xs[i]? = some xs[i] := List.getElem?_eq_getElem hlt
          simp only [Prod.mk.injEq] at hf2
          obtain ⟨rfl, rfl⟩ := hf2
          exact ⟨_, by simp [hy], (key i f _ hf1 hy).1⟩)
        rw [List.drop_zero] at this
        refine this.trans ?_
        simp [flat, List.flatMap, List.map_map, Function.comp_def]
      · simp only [List.flatMap_eq_nil_iff]
        intro y hy
        obtain ⟨i, hi'⟩ := List.getElem?_of_mem hy
        have hlt : i < fs.toList.length := hlen ▸ (List.getElem?_eq_some_iff.1 hi').1
        exact (key i _ y (List.getElem?_eq_getElem hlt) hi').2
    · rename_i k e ht
      simp only [Bool.and_eq_true] at h
      obtain ⟨hs, hi⟩ := h
      cases fuel with
      | zero => simp [DataW.trod] at hx
      | succ fuel =>
        simp only [DataW.trod, ht] at hx
        split at hx
        · rename_i hl
          obtain ⟨xs, hm, rfl⟩ := Option.map_eq_some_iff.1 hx
          have hxl : xs.length = k := by simpa using Lib.mapM_length hm
          have key : ∀ (i : Nat) (y : DataW H × List MemPlace), xs[i]? = some y → (cs.drop (i * P.cellsOf e)).take (P.cellsOf e) = (flat m y.1).map (Value.int .i64) ∧ y.2 = [] := fun i y hy => by
            have hlt : i < k := hxl ▸ (List.getElem?_eq_some_iff.1 hy).1
            obtain ⟨b, hb, hf⟩ := Lib.mapM_at hm i i (by simp [hlt])
            obtain rfl := Option.some.inj (hy.symm.trans hb)
            exact cells_of_ints m hi hf
          refine ⟨?_, ?_⟩
          · have := side_cells (cs := cs) ((List.range k).map fun i => (i * P.cellsOf e, P.cellsOf e)) (xs.map fun y => flat m y.1) 0 (by rw [hl]; exact hs) (by simpa using hxl) (fun i o c hi' => by
              simp only [List.getElem?_map, Option.map_eq_some_iff] at hi'
              obtain ⟨j, hj1, hj2⟩ := hi'
              have hlt : i < k := by simpa using (List.getElem?_eq_some_iff.1 hj1).1
              obtain rfl : i = j := by simpa [hlt] using hj1
              have hy : xs[i]? = some (xs[i]'(by omega)) := List.getElem?_eq_getElem (by omega)
              simp only [Prod.mk.injEq] at hj2
              obtain ⟨rfl, rfl⟩ := hj2
              exact ⟨_, by simp [hy], (key i _ hy).1⟩)
            rw [List.drop_zero] at this
            refine this.trans ?_
            simp [flat, List.flatMap, List.map_map, Function.comp_def]
          · simp only [List.flatMap_eq_nil_iff]
            intro y hy
            obtain ⟨i, hi'⟩ := List.getElem?_of_mem hy
            exact (key i y hi').2
        · cases hx
    · cases h

section
variable {H : Type} {enc : TypeId × Value → H} {P : Program}
theorem post_of_below {f : Func} {s : ChangeSpec} {apart fresh handsOn again : Bool} {W W' : World} {args : Array Value} {v : Value} {ds gs : List (DataW H)} {before pa pv : List MemPlace}
    (hW : DataW.Whole enc P f.params.toList s.vars apart W args.toList ds gs before)
    (hres : ∀ (b : Nat) (sp : Nat → Bool) (hd : Bool), DataW.TrodAll enc P W' b sp hd f.resultTypes.toList (v.resultList f.resultTypes.size) (s.fn H (ds ++ gs)).results [])
    (hargs : ∀ sp : Nat → Bool, (∀ p ∈ before, sp p.block = true) → DataW.TrodAll enc P W' 0 sp true f.params.toList args.toList (s.fn H (ds ++ gs)).args pa)
    (hvars : ∀ sp : Nat → Bool, (∀ p ∈ before, sp p.block = true) → DataW.TrodVars enc P W' sp s.vars (s.fn H (ds ++ gs)).vars pv)
    (hps : before = pa ++ pv) (hb : Below W.heap.size W W')
    (hok : ∀ (j : Nat) (t : TypeId) (r : Value), f.resultTypes[j]? = some t → (v.resultList f.resultTypes.size)[j]? = some r → Value.okWide P W' .any 0 t r) :
    s.post enc P f apart fresh handsOn again W args v W' := by
  have hlt : ∀ p ∈ before, p.block < W.heap.size := fun p hp => hW.lt p hp
  have hold : ∀ p ∈ before, (fun b => decide (b < W.heap.size)) p.block = true := fun p hp => by simpa using hlt p hp
  refine ⟨ds, gs, before, [], pa, pv, hW, hres _ _ _, hargs _ hold, hvars _ hold, World.keptBut_mono (fun p hp => ⟨hp, ?_⟩) (hb.frame (· ∈ before)), fun _ => ?_⟩
  · rw [hps, List.mem_append] at hp
    exact Or.inr hp
  · obtain ⟨_, _, _, _, _, hz, hn⟩ := hW
    refine ⟨hok, _, _, ([] ++ pa) ++ pv, ⟨[] ++ pa, pv, trodAll_append (hargs _ (fun _ _ => rfl)) (hres _ _ _), hvars _ (fun _ _ => rfl), rfl, ?_, ?_⟩, ?_⟩
    · intro b off hp
      have hin : MemPlace.cell b off ∈ before := by rw [hps]; simpa using hp
      rw [hb.frozen (hlt _ hin)]
      exact hz b off hin
    · intro ha
      have := hn ha
      rw [hps] at this
      simpa using this
    · intro p hp _
      rw [hps]
      simpa using hp
end

/-- every argument reads behind the call as before it, if below the heap's old size nothing has turned. -/
theorem trodAll_below {H : Type} {enc : TypeId × Value → H} {P : Program} (hl : laidOutB P = true) {W W' : World} (hb : Below W.heap.size W W') {sp : Nat → Bool} :
    ∀ {ts : List TypeId} {vs : List Value} {ds : List (DataW H)} {ps : List MemPlace}, (∀ t ∈ ts, P.readableRec t = true ∧ t < P.types.size) → DataW.TrodAll enc P W 0 (fun _ => true) true ts vs ds ps → (∀ p ∈ ps, p.block < W.heap.size) → (∀ p ∈ ps, sp p.block = true) →
    DataW.TrodAll enc P W' 0 sp true ts vs ds ps
  | [], [], [], _, _, h, _, _ => h
  | t :: ts, v :: vs, d :: ds, _, ht, ⟨p, q, h, hr, rfl⟩, hlt, hs => by
    have h1 := ht t (by simp)
    exact ⟨p, q, WideElems.Trod_stays hl h1.1 h1.2 h (fun x hx => hb.same (hlt x (by simp [hx]))) (fun x hx => hs x (by simp [hx])), trodAll_below hl hb (fun t' h' => ht t' (by simp [h'])) hr (fun x hx => hlt x (by simp [hx])) (fun x hx => hs x (by simp [hx])), rfl⟩
end Go.Flat

/- Contract of the reference's CheckGuard: the same error. -/
namespace Go.Proofs.YtdeapbihbhoefaaGreatDoor
open Go.RowKit
open Calm (bcell Blk)

set_option maxRecDepth 100000 in
set_option maxHeartbeats 40000000 in
theorem pGuard_any (lk ht rc : Int) (ts gs : List Int) (A1 A2 : Option Addr) (c1 c2 : Nat) (w : World) (hT0 : Cells w A1 ts) (hG0 : Cells w A2 gs) (h1 : ts.length ≤ 5000) (h2 : gs.length ≤ 5000) :
    Calls Tryz.prog 10 #[.agg #[(.int .i64 lk), (.int .i64 ht), .slice A1 ts.length c1, (.int .i64 rc), .slice A2 gs.length c2]] w fun r w' => r = .returned (.int .i64 (guardErr lk ht rc ts gs)) ∧ Below w.heap.size w w' := by
  have HT := Lib.hid hT0
  have HGS := Lib.hid hG0
  obtain ⟨M, hM⟩ : ∃ M, M = ts.length := ⟨_, rfl⟩
  obtain ⟨L, hL⟩ : ∃ L, L = gs.length := ⟨_, rfl⟩
  have HM := Lib.hid hM
  have HL := Lib.hid hL
  have HF2 : Hid (∀ (W : World) (a b : Int), Calls Tryz.prog 43 #[.slice (some ⟨W.heap.size, 0, none⟩) 2 2] (W.alloc (.cells #[(.int .i64 a), (.int .i64 b)] 3)) fun r w' => r = .returned (.int .i64 (firstOf [a, b])) ∧ (W.alloc (.cells #[(.int .i64 a), (.int .i64 b)] 3)) = w') := Lib.hid (fun W a b => qFirst_any [a, b] _ _ _ (by simp) (Cells.row (heap_new rfl)))
  obtain ⟨R, hR⟩ : ∃ R, R = guardErr lk ht rc ts gs := ⟨_, rfl⟩
  have HR0 : Hid (R = G1 gs [rangeErr lk 1 8, rangeErr ht 0 536870912, someErr M 8, eachErr ts (-64) 64, rangeErr rc 0 1048576, someErr L 8]) := Lib.hid (by rw [hR, hM, hL]; rfl)
  rw [← hR]
  rw [← hM] at h1 ⊢
  rw [← hL] at h2 ⊢
  clear hM hL hR hT0 hG0
  go_enter Tryz.func10, Tryz.ntmps10
  go_wp2
  refine Calm.tail_below 6 (by kernel_rfl) (by kernel_rfl) ?_
  simp only [List.take_succ_cons, List.take_zero, List.drop_succ_cons, List.drop_zero]
  repeat (first | (first | (apply Calm.op_move; (focus rfl); (focus (first | exact .inl rfl | exact .inr rfl)); (focus ((try simp only [Act.eval, Array.getD_eq_getD_getElem?, List.getElem?_toArray, List.getElem?_cons_succ, List.getElem?_cons_zero, Option.getD_some]); rfl)); (try simp only [Act.put, List.setIfInBounds_toArray, List.set_cons_zero, List.set_cons_succ])) | (apply Calm.op_not; (focus rfl); (try simp only [Act.put, List.setIfInBounds_toArray, List.set_cons_zero, List.set_cons_succ])) | (apply Calm.op; (focus rfl); (focus (intro W hb; obtain ⟨hc, hf⟩ := bcell hb; clear hb hf; go_simp; (try go_bits); (try rfl); done)); (try simp only [Act.put, List.setIfInBounds_toArray, List.set_cons_zero, List.set_cons_succ]))) | (apply Calm.op_call; (focus rfl); (focus (intro W hb; obtain ⟨hc, hf⟩ := bcell hb; clear hb hf; go_simp; refine ⟨?_, ?_⟩; rfl; rfl)); (focus (intro W hb; first | (go_at_call 44; exact Calm.call_same hb (qRange_any _ _ _ _)))); (try simp only [Act.put, List.setIfInBounds_toArray, List.set_cons_zero, List.set_cons_succ])))
  refine wpQuiet_nil ?_
  intro w1 hb1
  obtain ⟨hb1c, hb1f⟩ := bcell hb1
  have hb1z := hb1.size
  (try simp at hb1z)
  (try have hb1z0 : w.heap.size < w1.heap.size := by omega)
  (try have hb1z1 : w.heap.size + 1 < w1.heap.size := by omega)
  (try have hb1z2 : w.heap.size + 1 + 1 < w1.heap.size := by omega)
  (try have hb1z3 : w.heap.size + 1 + 1 + 1 < w1.heap.size := by omega)
  (try have hb1z4 : w.heap.size + 1 + 1 + 1 + 1 < w1.heap.size := by omega)
  (try have hb1z5 : w.heap.size + 1 + 1 + 1 + 1 + 1 < w1.heap.size := by omega)
  have hb1' : Below w.heap.size w w1 := Below.trans (by (repeat (first | (with_reducible exact Below.refl _ _) | ((with_reducible refine Below.setCell ?_ ?_ _); rotate_left 1; focus (first | (simp; done) | (simp; omega) | (simp at *; omega))) | ((with_reducible refine Below.alloc ?_ ?_ _); rotate_left 1; focus (first | (simp; done) | (simp; omega) | (simp at *; omega))) | (with_reducible refine Below.drew ?_) | ((with_reducible refine Calm.step (by assumption) ?_ ?_); rotate_left 1; focus (first | (simp; done) | (simp; omega) | (simp at *; omega)))))) (hb1.mono (by simp))
  have K0 : Blk w1 w.heap.size #[(.int .i64 lk), (.int .i64 ht), .slice A1 M c1, (.int .i64 rc), .slice A2 L c2] := Blk.below (by (repeat (first | ((with_reducible refine Blk.at_ ?_); focus (first | rfl | (simp; done) | (simp; omega))) | (with_reducible refine Blk.alloc ?_ _) | (with_reducible refine Blk.below ?_ (by with_reducible assumption)) | (with_reducible refine Blk.drew ?_)))) hb1
  obtain ⟨E, hE⟩ : ∃ E, E = firstOf [rangeErr lk 1 8, rangeErr ht 0 536870912] := ⟨_, rfl⟩
  have HE := Lib.hid hE
  obtain ⟨w2, hw2⟩ : ∃ w2, w2 = w1.alloc (.cells #[(.int .i64 (rangeErr lk 1 8)), (.int .i64 (rangeErr ht 0 536870912))] 3) := ⟨_, rfl⟩
  have HB2 : Hid (Below w.heap.size w w2) := Lib.hid (by rw [hw2]; exact hb1'.alloc hb1'.size _)
  have K2 : Blk w2 w.heap.size #[(.int .i64 lk), (.int .i64 ht), .slice A1 M c1, (.int .i64 rc), .slice A2 L c2] := by rw [hw2]; exact K0.alloc _
  have hF := HF2.out w1 (rangeErr lk 1 8) (rangeErr ht 0 536870912)
  rw [← hw2, ← hE] at hF
  have HW2 := Lib.hid hw2
  have HFF := Lib.hid hF
  obtain ⟨c00, c01, c02, c03, c04, l0, f0⟩ := K2.o5
  clear hb1 hb1c hb1f hb1' K0 hE hw2 hF K2
  by_cases h0 : E = 0
  · have HR1 : Hid (R = G1 gs [someErr M 8, eachErr ts (-64) 64, rangeErr rc 0 1048576, someErr L 8]) := Lib.hid (by rw [HR0.out, G1_two0 _ _ (by rw [← HE.out]; exact h0)])
    rw [h0] at HFF
    clear HR0 HE h0
    by_cases hm0 : M = 0
    · have HRR : Hid (R = 12) := Lib.hid (by rw [HR1.out, some0 hm0, G1_consN _ _ (by decide)])
      have hmi : ((M : Nat) : Int) = 0 := by omega
      clear HR1
      go_wp2_with (go_at_call 43; rw [← HW2.out]; refine HFF.out.mono ?_; rintro r w3 ⟨rfl, rfl⟩)
      go_ret
      exact ⟨ret_i HRR.out.symm, HB2.out⟩
    · have hmi : ¬ ((M : Nat) : Int) = 0 := by omega
      by_cases hm8 : 8 < M
      · have HRR : Hid (R = 5) := Lib.hid (by rw [HR1.out, some5 hm8, G1_consN _ _ (by decide)])
        have hmj : (8 : Int) < ((M : Nat) : Int) := by omega
        clear HR1
        go_wp2_with (go_at_call 43; rw [← HW2.out]; refine HFF.out.mono ?_; rintro r w3 ⟨rfl, rfl⟩)
        go_ret
        exact ⟨ret_i HRR.out.symm, HB2.out⟩
      · have hmj : ¬ (8 : Int) < ((M : Nat) : Int) := by omega
        have HR2 : Hid (R = G1 gs [eachErr ts (-64) 64, rangeErr rc 0 1048576, someErr L 8]) := Lib.hid (by rw [HR1.out, someOk (by omega) (by omega), G1_cons0])
        have hm : ∀ k, k < (ts.map fun n => rangeErr n (-64) 64).length → (ts.map fun n => rangeErr n (-64) 64).getD k 0 = rangeErr (ts.getD k 0) (-64) 64 := fun k hk => by
          have hk' : k < ts.length := by simpa using hk
          simp [List.getD_eq_getElem?_getD, hk']
        have HMG := Lib.hid hm
        have HML : Hid ((ts.map fun n => rangeErr n (-64) 64).length = M) := Lib.hid (by rw [List.length_map, ← HM.out])
        clear HR1 hm
        go_wp2_with (go_at_call 43; rw [← HW2.out]; refine HFF.out.mono ?_; rintro r w3 ⟨rfl, rfl⟩)
        clear HW2 HFF HF2
        rw [show (((M : Nat) : Int) == 0) = false from beq_eq_false_iff_ne.2 hmi]
        go_loop [4, 5] (fun i _ => ∃ k : Nat, k ≤ M ∧ i = (.int .i64 ((k : Nat))) ∧ ∀ j, j < k → (ts.map fun n => rangeErr n (-64) 64).getD j 0 = 0) (fun i _ => M - (intOf i).toNat)
        case atStart => exact ⟨0, Nat.zero_le _, rfl, fun j hj => by omega⟩
        case round =>
          obtain ⟨k, hk, rfl, hz⟩ := hrel
          have HZ := Lib.hid hz
          clear hz
          by_cases hlt : k < M
          · obtain ⟨b, off, rfl, hbl, hc⟩ := HT.out (by rw [← HM.out]; omega)
            have hck := (HB2.out.cell (p := ⟨b, off + k, none⟩) hbl).trans (hc k (by rw [← HM.out]; exact hlt))
            have hbl2 := Nat.lt_of_lt_of_le hbl HB2.out.size
            have HG := Lib.hid (HMG.out k (by rw [HML.out]; exact hlt))
            clear hc
            obtain ⟨x, hx⟩ : ∃ x, x = ts.getD k 0 := ⟨_, rfl⟩
            rw [← hx] at hck HG
            clear hx
            by_cases h0 : rangeErr x (-64) 64 = 0
            · have H0 := Lib.hid h0
              clear h0
              go_wp2_with (go_at_call 44; refine (qRange_any _ _ _ _).mono ?_; rw [H0.out]; rintro r w' ⟨rfl, rfl⟩)
              go_round
              case rel => exact ⟨k + 1, by omega, by go_num, fun j hj => by
                rcases Nat.lt_or_ge j k with hjk | hjk
                · exact HZ.out j hjk
                · obtain rfl : j = k := by omega
                  rw [HG.out]; exact H0.out⟩
              case measure => simp [intOf]; omega
            · obtain ⟨e, he⟩ : ∃ e, e = rangeErr x (-64) 64 := ⟨_, rfl⟩
              rw [← he] at h0 HG
              have H1 := Lib.hid he
              have H2 := Lib.hid h0
              clear he
              go_wp2_with (go_at_call 44; refine (qRange_any _ _ _ _).mono ?_; rw [← H1.out]; rintro r w' ⟨rfl, rfl⟩)
              go_ret
              exact ⟨ret_i (by
                have h3 : eachErr ts (-64) 64 = e := by unfold eachErr; rw [firstOf_take HZ.out (by rw [HML.out]; exact hlt) (by rw [HG.out]; exact H2.out), HG.out]
                rw [HR2.out, h3, G1_consN _ _ H2.out]), HB2.out⟩
          · have HR3 : Hid (R = G1 gs [rangeErr rc 0 1048576, someErr L 8]) := Lib.hid (by
              have h3 : eachErr ts (-64) 64 = 0 := firstOf_zero (fun j hj => HZ.out j (by rw [HML.out] at hj; omega))
              rw [HR2.out, h3, G1_cons0])
            clear HR2 HMG HML HZ
            by_cases hrc : rangeErr rc 0 1048576 = 0
            · have H0 := Lib.hid hrc
              have HR4 : Hid (R = G1 gs [someErr L 8]) := Lib.hid (by rw [HR3.out, hrc, G1_cons0])
              clear HR3 hrc
              by_cases hl0 : L = 0
              · have HRR : Hid (R = 12) := Lib.hid (by rw [HR4.out, some0 hl0, G1_consN _ _ (by decide)])
                have hli : ((L : Nat) : Int) = 0 := by omega
                clear HR4
                go_wp2_with (go_at_call 44; refine (qRange_any _ _ _ _).mono ?_; rw [H0.out]; rintro r w' ⟨rfl, rfl⟩)
                go_ret
                exact ⟨ret_i HRR.out.symm, HB2.out⟩
              · have hli : ¬ ((L : Nat) : Int) = 0 := by omega
                by_cases hl8 : 8 < L
                · have HRR : Hid (R = 5) := Lib.hid (by rw [HR4.out, some5 hl8, G1_consN _ _ (by decide)])
                  have hlj : (8 : Int) < ((L : Nat) : Int) := by omega
                  clear HR4
                  go_wp2_with (go_at_call 44; refine (qRange_any _ _ _ _).mono ?_; rw [H0.out]; rintro r w' ⟨rfl, rfl⟩)
                  go_ret
                  exact ⟨ret_i HRR.out.symm, HB2.out⟩
                · have hlj : ¬ (8 : Int) < ((L : Nat) : Int) := by omega
                  have HR5 : Hid (R = guardErr2 gs) := Lib.hid (by rw [HR4.out, someOk (by omega) (by omega), G1_cons0, G1_nil])
                  clear HR4
                  go_wp2_with (go_at_call 44; refine (qRange_any _ _ _ _).mono ?_; rw [H0.out]; rintro r w' ⟨rfl, rfl⟩)
                  rw [show (((L : Nat) : Int) == 0) = false from beq_eq_false_iff_ne.2 hli]
                  go_loopw [7] (fun i wr => ∃ k : Nat, k ≤ L ∧ i = (.int .i64 ((k : Nat))) ∧ (∀ j, j < k → eltG gs j = 0) ∧ Below w2.heap.size w2 wr) (fun i _ => L - (intOf i).toNat)
                  case atStart => exact ⟨0, Nat.zero_le _, rfl, fun j hj => by omega, Below.refl _ _⟩
                  case round =>
                    obtain ⟨k, hk, rfl, hz, hB⟩ := hrel
                    have HZ := Lib.hid hz
                    have hsz := hB.size
                    obtain ⟨hbc, hbf⟩ := bcell hB
                    have HB := Lib.hid (HB2.out.trans (hB.mono HB2.out.size))
                    have HBB := Lib.hid hB
                    have l0' : w.heap.size < wr.heap.size := by omega
                    have d00 := (hbc _ 0 l0).trans c00
                    have d01 := (hbc _ 1 l0).trans c01
                    have d02 := (hbc _ 2 l0).trans c02
                    have d03 := (hbc _ 3 l0).trans c03
                    have d04 := (hbc _ 4 l0).trans c04
                    clear hz hB hbc hbf
                    by_cases hlt : k < L
                    · obtain ⟨b, off, rfl, hbl, hc⟩ := HGS.out (by rw [← HL.out]; omega)
                      have hck := (HB.out.cell (p := ⟨b, off + k, none⟩) hbl).trans (hc k (by rw [← HL.out]; exact hlt))
                      have hbl2 := Nat.lt_of_lt_of_le hbl HB.out.size
                      have HC0 := Lib.hid (fun j (hj : j < L) => (HB.out.cell (p := ⟨b, off + j, none⟩) hbl).trans (hc j (by rw [← HL.out]; exact hj)))
                      clear hc
                      obtain ⟨x, hx⟩ : ∃ x, x = gs.getD k 0 := ⟨_, rfl⟩
                      rw [← hx] at hck
                      have HX := Lib.hid hx
                      clear hx
                      by_cases hx0 : rangeErr x 0 16 = 0
                      · have H0x := Lib.hid hx0
                        clear hx0
                        by_cases hk0 : k = 0
                        · subst hk0
                          rw [Nat.add_zero] at hck
                          by_cases hxz : x = 0
                          · have HE0 : Hid (eltG gs 0 = 0) := Lib.hid (by rw [eltG_zero, ← HX.out, H0x.out, if_neg (by simp [hxz]), first0])
                            subst hxz
                            go_wp2_with (go_at_call 44; refine (qRange_any _ _ _ _).mono ?_; rw [H0x.out]; rintro r w' ⟨rfl, rfl⟩)
                            go_region
                            go_wp2
                            go_roundw
                            case rel => exact ⟨1, by omega, by first | rfl | go_num, fun j hj => by
                              obtain rfl : j = 0 := by omega
                              exact HE0.out, (by first | exact HBB.out | exact HBB.out.drew)⟩
                            case measure => simp [intOf]; omega
                          · have hxb1 : (x == 0) = false := beq_eq_false_iff_ne.2 hxz
                            have hxb2 : (x != 0) = true := bne_iff_ne.2 hxz
                            have HRR : Hid (R = 11) := Lib.hid (by
                              have h3 : eltG gs 0 = 11 := by rw [eltG_zero, ← HX.out, H0x.out, if_pos hxz, first0]
                              rw [HR5.out, g2_at HZ.out (by rw [← HL.out]; exact hlt) (by rw [h3]; decide), h3])
                            go_wp2_with (go_at_call 44; refine (qRange_any _ _ _ _).mono ?_; rw [H0x.out]; rintro r w' ⟨rfl, rfl⟩)
                            go_region
                            go_wp2
                            go_ret
                            exact ⟨ret_i HRR.out.symm, (by first | exact HB.out | exact HB.out.drew)⟩
                        · have hkp : 0 < k := by omega
                          obtain ⟨m, rfl⟩ : ∃ m, k = m + 1 := ⟨k - 1, by omega⟩
                          have hck2 := HC0.out m (by omega)
                          have hkb : (((m : Nat) : Int) + 1 == 0) = false := beq_eq_false_iff_ne.2 (by omega)
                          have hkj : (0 : Int) < ((m : Nat) : Int) + 1 := by omega
                          have hk2 : ((m : Nat) : Int) + 1 < (L : Int) := by omega
                          have hk3 : ((m : Nat) : Int) < (L : Int) := by omega
                          have hmL : m < L := by omega
                          have HEE : Hid (eltG gs (m + 1) = if x ≤ gs.getD m 0 then 11 else 0) := Lib.hid (by rw [eltG_pos hkp]; unfold ascAt; rw [← HX.out, H0x.out, first0]; simp)
                          obtain ⟨y, hy⟩ : ∃ y, y = gs.getD m 0 := ⟨_, rfl⟩
                          rw [← hy] at hck2 HEE
                          clear hy
                          by_cases hxy : x ≤ y
                          · have HRR : Hid (R = 11) := Lib.hid (by
                              have h3 : eltG gs (m + 1) = 11 := by rw [HEE.out, if_pos hxy]
                              rw [HR5.out, g2_at HZ.out (by rw [← HL.out]; exact hlt) (by rw [h3]; decide), h3])
                            go_wp2_with (go_at_call 44; refine (qRange_any _ _ _ _).mono ?_; rw [H0x.out]; rintro r w' ⟨rfl, rfl⟩)
                            refine Calm.tail_below 24 (by kernel_rfl) (by kernel_rfl) ?_
                            simp only [List.take_succ_cons, List.take_zero, List.drop_succ_cons, List.drop_zero]
                            repeat (first | (apply Calm.op_move; (focus rfl); (focus (first | exact .inl rfl | exact .inr rfl)); (focus ((try simp only [Act.eval, Array.getD_eq_getD_getElem?, List.getElem?_toArray, List.getElem?_cons_succ, List.getElem?_cons_zero, Option.getD_some]); rfl)); (try simp only [Act.put, List.setIfInBounds_toArray, List.set_cons_zero, List.set_cons_succ])) | (apply Calm.op_not; (focus rfl); (try simp only [Act.put, List.setIfInBounds_toArray, List.set_cons_zero, List.set_cons_succ])) | (apply Calm.op; (focus rfl); (focus (intro W hb; obtain ⟨hc, hf⟩ := bcell hb; clear hb hf; go_simp; (try go_bits); (try rfl); done)); (try simp only [Act.put, List.setIfInBounds_toArray, List.set_cons_zero, List.set_cons_succ])))
                            refine wpQuiet_nil ?_
                            intro w5 hb5
                            obtain ⟨hb5c, hb5f⟩ := bcell hb5
                            have hb5z := hb5.size
                            (try simp at hb5z)
                            (try have hb5z0 : w.heap.size < w5.heap.size := by omega)
                            (try have hb5z1 : w.heap.size + 1 < w5.heap.size := by omega)
                            (try have hb5z2 : w.heap.size + 1 + 1 < w5.heap.size := by omega)
                            (try have hb5z3 : w.heap.size + 1 + 1 + 1 < w5.heap.size := by omega)
                            (try have hb5z4 : w.heap.size + 1 + 1 + 1 + 1 < w5.heap.size := by omega)
                            (try have hb5z5 : w.heap.size + 1 + 1 + 1 + 1 + 1 < w5.heap.size := by omega)
                            have HB5 := Lib.hid (HBB.out.trans (hb5.mono hsz))
                            go_wp2
                            go_ret
                            exact ⟨ret_i HRR.out.symm, HB2.out.trans (HB5.out.mono HB2.out.size)⟩
                          · have HE0 : Hid (eltG gs (m + 1) = 0) := Lib.hid (by rw [HEE.out, if_neg hxy])
                            go_wp2_with (go_at_call 44; refine (qRange_any _ _ _ _).mono ?_; rw [H0x.out]; rintro r w' ⟨rfl, rfl⟩)
                            refine Calm.tail_below 24 (by kernel_rfl) (by kernel_rfl) ?_
                            simp only [List.take_succ_cons, List.take_zero, List.drop_succ_cons, List.drop_zero]
                            repeat (first | (apply Calm.op_move; (focus rfl); (focus (first | exact .inl rfl | exact .inr rfl)); (focus ((try simp only [Act.eval, Array.getD_eq_getD_getElem?, List.getElem?_toArray, List.getElem?_cons_succ, List.getElem?_cons_zero, Option.getD_some]); rfl)); (try simp only [Act.put, List.setIfInBounds_toArray, List.set_cons_zero, List.set_cons_succ])) | (apply Calm.op_not; (focus rfl); (try simp only [Act.put, List.setIfInBounds_toArray, List.set_cons_zero, List.set_cons_succ])) | (apply Calm.op; (focus rfl); (focus (intro W hb; obtain ⟨hc, hf⟩ := bcell hb; clear hb hf; go_simp; (try go_bits); (try rfl); done)); (try simp only [Act.put, List.setIfInBounds_toArray, List.set_cons_zero, List.set_cons_succ])))
                            refine wpQuiet_nil ?_
                            intro w5 hb5
                            obtain ⟨hb5c, hb5f⟩ := bcell hb5
                            have hb5z := hb5.size
                            (try simp at hb5z)
                            (try have hb5z0 : w.heap.size < w5.heap.size := by omega)
                            (try have hb5z1 : w.heap.size + 1 < w5.heap.size := by omega)
                            (try have hb5z2 : w.heap.size + 1 + 1 < w5.heap.size := by omega)
                            (try have hb5z3 : w.heap.size + 1 + 1 + 1 < w5.heap.size := by omega)
                            (try have hb5z4 : w.heap.size + 1 + 1 + 1 + 1 < w5.heap.size := by omega)
                            (try have hb5z5 : w.heap.size + 1 + 1 + 1 + 1 + 1 < w5.heap.size := by omega)
                            have HB5 := Lib.hid (HBB.out.trans (hb5.mono hsz))
                            go_wp2
                            go_roundw
                            case rel => exact ⟨m + 1 + 1, by omega, by go_num, fun j hj => by
                              rcases Nat.lt_or_ge j (m + 1) with hjk | hjk
                              · exact HZ.out j hjk
                              · obtain rfl : j = m + 1 := by omega
                                exact HE0.out, HB5.out⟩
                            case measure => simp [intOf]; omega
                      · obtain ⟨e, he⟩ : ∃ e, e = rangeErr x 0 16 := ⟨_, rfl⟩
                        rw [← he] at hx0
                        have H1 := Lib.hid he
                        have HRR : Hid (R = e) := Lib.hid (by
                          have h3 : eltG gs k = e := by unfold eltG; rw [← HX.out, ← H1.out, fo_consN hx0]
                          rw [HR5.out, g2_at HZ.out (by rw [← HL.out]; exact hlt) (by rw [h3]; exact hx0), h3])
                        clear he
                        go_wp2_with (go_at_call 44; refine (qRange_any _ _ _ _).mono ?_; rw [← H1.out]; rintro r w' ⟨rfl, rfl⟩)
                        go_ret
                        exact ⟨ret_i HRR.out.symm, HB.out⟩
                    · obtain rfl : k = L := by omega
                      have HRR : Hid (R = 0) := Lib.hid (by rw [HR5.out]; exact g2_zero (fun j hj => HZ.out j (by rw [HL.out]; exact hj)) (by rw [← HL.out]; omega))
                      go_wp2
                      go_ret
                      exact ⟨ret_i HRR.out.symm, HB.out⟩
            · obtain ⟨e, he⟩ : ∃ e, e = rangeErr rc 0 1048576 := ⟨_, rfl⟩
              rw [← he] at hrc HR3
              have H1 := Lib.hid he
              have HRR : Hid (R = e) := Lib.hid (by rw [HR3.out, G1_consN _ _ hrc])
              clear he HR3
              go_wp2_with (go_at_call 44; refine (qRange_any _ _ _ _).mono ?_; rw [← H1.out]; rintro r w' ⟨rfl, rfl⟩)
              go_ret
              exact ⟨ret_i HRR.out.symm, HB2.out⟩
  · have HRR : Hid (R = E) := Lib.hid (by rw [HR0.out, G1_twoN _ _ (by rw [← HE.out]; exact h0), HE.out])
    clear HR0 HE
    go_wp2_with (go_at_call 43; rw [← HW2.out]; refine HFF.out.mono ?_; rintro r w3 ⟨rfl, rfl⟩)
    go_ret
    exact ⟨ret_i HRR.out.symm, HB2.out⟩
end Go.Proofs.YtdeapbihbhoefaaGreatDoor

/- Contracts of Short and of dustGuard. -/
namespace Go.Proofs.YtdeapbihbhoefaaGreatDoor
open Go.RowKit
open Calm (bcell Blk)

theorem pShort_any (lk ht rc : Int) (A1 A2 : Option Addr) (M L c1 c2 : Nat) (w : World) :
    Calls Tryz.prog 5 #[.agg #[(.int .i64 lk), (.int .i64 ht), .slice A1 M c1, (.int .i64 rc), .slice A2 L c2]] w fun r w' => r = .returned (.bool (decide (M ≤ 9 ∧ L ≤ 9))) ∧ Below w.heap.size w w' := by
  by_cases h1 : M ≤ 9
  · have h1i : (M : Int) ≤ 9 := by omega
    by_cases h2 : L ≤ 9
    · have h2i : (L : Int) ≤ 9 := by omega
      have HE := Lib.hid (show decide (M ≤ 9 ∧ L ≤ 9) = true from decide_eq_true ⟨h1, h2⟩)
      go_enter Tryz.func5, Tryz.ntmps5
      go_wp2
      go_ret
      exact ⟨by first | rfl | (rw [HE.out]; rfl) | (simp [h2]; done), by (repeat (first | (with_reducible exact Below.refl _ _) | ((with_reducible refine Below.setCell ?_ ?_ _); rotate_left 1; focus (first | (simp; done) | (simp; omega) | (simp at *; omega))) | ((with_reducible refine Below.alloc ?_ ?_ _); rotate_left 1; focus (first | (simp; done) | (simp; omega) | (simp at *; omega))) | (with_reducible refine Below.drew ?_) | ((with_reducible refine Calm.step (by assumption) ?_ ?_); rotate_left 1; focus (first | (simp; done) | (simp; omega) | (simp at *; omega)))))⟩
    · have h2i : ¬ (L : Int) ≤ 9 := by omega
      have HE := Lib.hid (show decide (M ≤ 9 ∧ L ≤ 9) = false from decide_eq_false (fun h => h2 h.2))
      go_enter Tryz.func5, Tryz.ntmps5
      go_wp2
      go_ret
      exact ⟨by first | rfl | (rw [HE.out]; rfl) | (simp [h2]; done), by (repeat (first | (with_reducible exact Below.refl _ _) | ((with_reducible refine Below.setCell ?_ ?_ _); rotate_left 1; focus (first | (simp; done) | (simp; omega) | (simp at *; omega))) | ((with_reducible refine Below.alloc ?_ ?_ _); rotate_left 1; focus (first | (simp; done) | (simp; omega) | (simp at *; omega))) | (with_reducible refine Below.drew ?_) | ((with_reducible refine Calm.step (by assumption) ?_ ?_); rotate_left 1; focus (first | (simp; done) | (simp; omega) | (simp at *; omega)))))⟩
  · have h1i : ¬ (M : Int) ≤ 9 := by omega
    have HE := Lib.hid (show decide (M ≤ 9 ∧ L ≤ 9) = false from decide_eq_false (fun h => h1 h.1))
    go_enter Tryz.func5, Tryz.ntmps5
    go_wp2
    go_ret
    exact ⟨by first | rfl | (rw [HE.out]; rfl) | (simp [h2]; done), by (repeat (first | (with_reducible exact Below.refl _ _) | ((with_reducible refine Below.setCell ?_ ?_ _); rotate_left 1; focus (first | (simp; done) | (simp; omega) | (simp at *; omega))) | ((with_reducible refine Below.alloc ?_ ?_ _); rotate_left 1; focus (first | (simp; done) | (simp; omega) | (simp at *; omega))) | (with_reducible refine Below.drew ?_) | ((with_reducible refine Calm.step (by assumption) ?_ ?_); rotate_left 1; focus (first | (simp; done) | (simp; omega) | (simp at *; omega)))))⟩
end Go.Proofs.YtdeapbihbhoefaaGreatDoor

/- Plain laws of ProtectKeeps: the limits as sums of the taps. -/
namespace Go.Proofs.YtdeapbihbhoefaaGreatDoor
open Go.RowKit

end Go.Proofs.YtdeapbihbhoefaaGreatDoor

/- Plain laws of ProtectOpposite. -/
namespace Go.Proofs.YtdeapbihbhoefaaGreatDoor
open Go.RowKit

end Go.Proofs.YtdeapbihbhoefaaGreatDoor

/- Plain laws of ProtectLoudest: the search goes through all lists in their order. -/
namespace Go.Proofs.YtdeapbihbhoefaaGreatDoor
open Go.RowKit

end Go.Proofs.YtdeapbihbhoefaaGreatDoor

/- Plain laws: what the reference computes is what the program computes. -/
namespace Go.Proofs.YtdeapbihbhoefaaGreatDoor
open Go.RowKit

end Go.Proofs.YtdeapbihbhoefaaGreatDoor

/- Contracts of the library at this program, in plain words (written by the kit's own tool, cut to what is used). -/
namespace Go.Proofs
open Go.Shelf
def Tryz.lays156_ren : Go.Shelf.Ren := ⟨fun | 156 => 38 | 165 => 73 | 166 => 74 | 169 => 75 | 240 => 86 | 241 => 87 | 276 => 97 | 277 => 98 | n => n, fun | 31 => 74 | 9 => 9 | 3 => 3 | 4 => 4 | 0 => 0 | 20 => 20 | 72 => 119 | 76 => 123 | 70 => 116 | 37 => 117 | 75 => 122 | 127 => 135 | 164 => 151 | 5 => 5 | 80 => 125 | n => n, fun | n => n⟩
theorem Tryz.lays156 : Go.Proofs.Lays.n156 Tryz.prog Tryz.lays156_ren := {
  mixed := by kernel_rfl
  f156 := Tryz.func38.trans (congrArg some (by kernel_rfl))
  f165 := Tryz.func73.trans (congrArg some (by kernel_rfl))
  f166 := Tryz.func74.trans (congrArg some (by kernel_rfl))
  f169 := Tryz.func75.trans (congrArg some (by kernel_rfl))
  f240 := Tryz.func86.trans (congrArg some (by kernel_rfl))
  f241 := Tryz.func87.trans (congrArg some (by kernel_rfl))
  f276 := Tryz.func97.trans (congrArg some (by kernel_rfl))
  f277 := Tryz.func98.trans (congrArg some (by kernel_rfl))
  t0 := Tryz.underlying0
  a0 := Tryz.isAgg0
  z0 := Tryz.sizeOf0
  v0 := Tryz.zeroValue0
  t3 := Tryz.underlying3
  a3 := Tryz.isAgg3
  z3 := Tryz.sizeOf3
  v3 := Tryz.zeroValue3
  t4 := Tryz.underlying4
  a4 := Tryz.isAgg4
  z4 := Tryz.sizeOf4
  v4 := Tryz.zeroValue4
  t9 := Tryz.underlying9
  a9 := Tryz.isAgg9
  z9 := Tryz.sizeOf9
  v9 := Tryz.zeroValue9
  t20 := Tryz.underlying20
  a20 := Tryz.isAgg20
  z20 := Tryz.sizeOf20
  v20 := Tryz.zeroValue20
  t31 := Tryz.underlying74
  a31 := Tryz.isAgg74
  z31 := Tryz.sizeOf74
  v31 := Tryz.zeroValue74
  t37 := Tryz.underlying117
  a37 := Tryz.isAgg117
  z37 := Tryz.sizeOf117
  v37 := Tryz.zeroValue117
  t70 := Tryz.underlying116
  a70 := Tryz.isAgg116
  z70 := Tryz.sizeOf116
  v70 := Tryz.zeroValue116
  t72 := Tryz.underlying119
  a72 := Tryz.isAgg119
  z72 := Tryz.sizeOf119
  v72 := Tryz.zeroValue119
  t75 := Tryz.underlying122
  a75 := Tryz.isAgg122
  z75 := Tryz.sizeOf122
  v75 := Tryz.zeroValue122
  t76 := Tryz.underlying123
  a76 := Tryz.isAgg123
  z76 := Tryz.sizeOf123
  v76 := Tryz.zeroValue123
  t127 := Tryz.underlying135
  a127 := Tryz.isAgg135
  z127 := Tryz.sizeOf135
  v127 := Tryz.zeroValue135
  t164 := Tryz.underlying151
  a164 := Tryz.isAgg151
  z164 := Tryz.sizeOf151
  v164 := Tryz.zeroValue151 }
theorem Tryz.Builder_Extra_156 : Builder.Extra Tryz.prog Tryz.lays156_ren := {
  sizeBuilder := by kernel_rfl
  liesBuilder := by kernel_rfl
  t5 := Tryz.underlying5
  a5 := Tryz.isAgg5
  z5 := Tryz.sizeOf5
  v5 := Tryz.zeroValue5
  infoByte := by kernel_rfl
  cellsByte := by kernel_rfl
  sizeByte := by kernel_rfl
  neB5 := by decide }
open Go.RowKit in
theorem Tryz.strings_Join (bk o c : Nat) (xs : List ByteArray) (sep : ByteArray) (w : World) (hcells : ∀ (j : Nat) x, xs[j]? = some x → w.cell? ⟨bk, o + j, none⟩ = some (.string x)) (hbk : bk < w.heap.size) (hN : xs.length ≤ 140737488355328) (hcap : xs.length ≤ c) (hlen : (Lib.join (xs.map (·.data.toList)) sep.data.toList).length ≤ 140737488355328) :
    Calls Tryz.prog 38 #[.slice (some ⟨bk, o, none⟩) xs.length c, .string sep] w fun e w' => e = .returned (.string ⟨(Lib.join (xs.map (·.data.toList)) sep.data.toList).toArray⟩) ∧ Below w.heap.size w w' := Any.strings_Join Tryz.lays156 Tryz.Builder_Extra_156 bk o c xs sep w hcells hbk hN hcap hlen
def Tryz.lays103_ren : Go.Shelf.Ren := ⟨fun | 103 => 91 | 210 => 103 | 206 => 114 | n => n, fun | 9 => 9 | 4 => 4 | 24 => 138 | 3 => 3 | n => n, fun | n => n⟩
theorem Tryz.lays103 : Go.Proofs.Lays.n103 Tryz.prog Tryz.lays103_ren := {
  mixed := by kernel_rfl
  f103 := Tryz.func91.trans (congrArg some (by kernel_rfl))
  f206 := Tryz.func114.trans (congrArg some (by kernel_rfl))
  f210 := Tryz.func103.trans (congrArg some (by kernel_rfl))
  t3 := Tryz.underlying3
  a3 := Tryz.isAgg3
  z3 := Tryz.sizeOf3
  v3 := Tryz.zeroValue3
  t4 := Tryz.underlying4
  a4 := Tryz.isAgg4
  z4 := Tryz.sizeOf4
  v4 := Tryz.zeroValue4
  t9 := Tryz.underlying9
  a9 := Tryz.isAgg9
  z9 := Tryz.sizeOf9
  v9 := Tryz.zeroValue9
  t24 := Tryz.underlying138
  a24 := Tryz.isAgg138
  z24 := Tryz.sizeOf138
  v24 := Tryz.zeroValue138 }
open Go.RowKit in
theorem Tryz.strings_CutPrefix (s p : ByteArray) (w : World) :
    Calls Tryz.prog 91 #[.string s, .string p] w fun e w' => e = .returned (.tuple #[.string ⟨(Lib.trimPrefix s.data.toList p.data.toList).toArray⟩, .bool (Lib.hasPrefix s.data.toList p.data.toList)]) ∧ w' = w := Any.strings_CutPrefix Tryz.lays103 s p w
def Tryz.laysM171_ren : Go.Shelf.Ren := ⟨fun | 171 => 36 | 243 => 72 | 246 => 85 | 283 => 93 | 284 => 94 | 285 => 95 | 286 => 96 | 129 => 105 | 317 => 104 | 318 => 106 | 319 => 107 | 320 => 108 | 337 => 115 | 338 => 116 | n => n, fun | 3 => 3 | 9 => 9 | 2 => 2 | 4 => 4 | 171 => 145 | 0 => 0 | 53 => 146 | 37 => 117 | 5 => 5 | 173 => 149 | 212 => 159 | 51 => 160 | 20 => 20 | 213 => 161 | 46 => 163 | 232 => 173 | 233 => 174 | n => n, fun | 17 => 1 | 18 => 5 | 19 => 6 | n => n⟩
theorem Tryz.laysM171 : Go.Proofs.LaysM.n171 Tryz.prog Tryz.laysM171_ren := {
  mixed := by kernel_rfl
  f129 := Tryz.func105.trans (congrArg some (by kernel_rfl))
  f171 := Tryz.func36.trans (congrArg some (by kernel_rfl))
  f243 := Tryz.func72.trans (congrArg some (by kernel_rfl))
  f246 := Tryz.func85.trans (congrArg some (by kernel_rfl))
  f283 := Tryz.func93.trans (congrArg some (by kernel_rfl))
  f284 := Tryz.func94.trans (congrArg some (by kernel_rfl))
  f285 := Tryz.func95.trans (congrArg some (by kernel_rfl))
  f286 := Tryz.func96.trans (congrArg some (by kernel_rfl))
  f317 := Tryz.func104.trans (congrArg some (by kernel_rfl))
  f318 := Tryz.func106.trans (congrArg some (by kernel_rfl))
  f319 := Tryz.func107.trans (congrArg some (by kernel_rfl))
  f320 := Tryz.func108.trans (congrArg some (by kernel_rfl))
  f337 := Tryz.func115.trans (congrArg some (by kernel_rfl))
  f338 := Tryz.func116.trans (congrArg some (by kernel_rfl))
  t0 := Tryz.underlying0
  a0 := Tryz.isAgg0
  z0 := Tryz.sizeOf0
  v0 := Tryz.zeroValue0
  t2 := Tryz.underlying2
  a2 := Tryz.isAgg2
  z2 := Tryz.sizeOf2
  v2 := Tryz.zeroValue2
  t3 := Tryz.underlying3
  a3 := Tryz.isAgg3
  z3 := Tryz.sizeOf3
  v3 := Tryz.zeroValue3
  t4 := Tryz.underlying4
  a4 := Tryz.isAgg4
  z4 := Tryz.sizeOf4
  v4 := Tryz.zeroValue4
  t5 := Tryz.underlying5
  a5 := Tryz.isAgg5
  z5 := Tryz.sizeOf5
  v5 := Tryz.zeroValue5
  t9 := Tryz.underlying9
  a9 := Tryz.isAgg9
  z9 := Tryz.sizeOf9
  v9 := Tryz.zeroValue9
  t20 := Tryz.underlying20
  a20 := Tryz.isAgg20
  z20 := Tryz.sizeOf20
  v20 := Tryz.zeroValue20
  t37 := Tryz.underlying117
  a37 := Tryz.isAgg117
  z37 := Tryz.sizeOf117
  v37 := Tryz.zeroValue117
  t46 := Tryz.underlying163
  a46 := Tryz.isAgg163
  z46 := Tryz.sizeOf163
  v46 := Tryz.zeroValue163
  t51 := Tryz.underlying160
  a51 := Tryz.isAgg160
  z51 := Tryz.sizeOf160
  v51 := Tryz.zeroValue160
  t53 := Tryz.underlying146
  a53 := Tryz.isAgg146
  z53 := Tryz.sizeOf146
  v53 := Tryz.zeroValue146
  t171 := Tryz.underlying145
  a171 := Tryz.isAgg145
  z171 := Tryz.sizeOf145
  v171 := Tryz.zeroValue145
  t173 := Tryz.underlying149
  a173 := Tryz.isAgg149
  z173 := Tryz.sizeOf149
  v173 := Tryz.zeroValue149
  t212 := Tryz.underlying159
  a212 := Tryz.isAgg159
  z212 := Tryz.sizeOf159
  v212 := Tryz.zeroValue159
  t213 := Tryz.underlying161
  a213 := Tryz.isAgg161
  z213 := Tryz.sizeOf161
  t232 := Tryz.underlying173
  a232 := Tryz.isAgg173
  z232 := Tryz.sizeOf173
  v232 := Tryz.zeroValue173
  t233 := Tryz.underlying174
  a233 := Tryz.isAgg174
  z233 := Tryz.sizeOf174
  v233 := Tryz.zeroValue174
  g17 := by kernel_rfl
  g18 := by kernel_rfl
  g19 := by kernel_rfl
  i0 := by kernel_rfl
  i2 := by kernel_rfl
  i3 := by kernel_rfl
  i4 := by kernel_rfl
  i5 := by kernel_rfl
  i9 := by kernel_rfl
  i20 := by kernel_rfl
  i37 := by kernel_rfl
  i46 := by kernel_rfl
  i51 := by kernel_rfl
  i53 := by kernel_rfl
  i171 := by kernel_rfl
  i173 := by kernel_rfl
  i212 := by kernel_rfl
  i232 := by kernel_rfl
  i233 := by kernel_rfl
  m17 := by kernel_rfl
  m18 := by kernel_rfl
  m19 := by kernel_rfl }
open Go.RowKit Go.Sort Go.Lib in
theorem Tryz.strconv_Itoa (n : Int) (h0 : -9223372036854775808 ≤ n) (h1 : n ≤ 9223372036854775807) (w : World) (htab : Lib.TabIs Tryz.prog w "internal/strconv.uint64pow10" .u64 Lib.pow10Tab) :
    Calls Tryz.prog 36 #[.int .i64 n] w fun e w' => e = .returned (.string ⟨(Lib.itoa n).toArray⟩) ∧ ∃ k os, w' = grow (w.drewN k) os := Any.strconv_Itoa Tryz.laysM171 n h0 h1 w htab
def Tryz.lays146_ren : Go.Shelf.Ren := ⟨fun | 146 => 40 | 221 => 76 | 268 => 88 | 138 => 89 | 143 => 90 | 195 => 99 | 197 => 100 | 218 => 101 | 219 => 102 | 260 => 109 | 217 => 110 | 225 => 111 | 224 => 112 | 267 => 113 | 266 => 117 | 314 => 118 | n => n, fun | 9 => 9 | 31 => 74 | 3 => 3 | 4 => 4 | 0 => 0 | 105 => 155 | 21 => 21 | 5 => 5 | 46 => 163 | 119 => 167 | 139 => 170 | 138 => 169 | 146 => 171 | 51 => 160 | n => n, fun | 1 => 2 | 3 => 3 | 4 => 4 | n => n⟩
theorem Tryz.lays146 : Go.Proofs.Lays.n146 Tryz.prog Tryz.lays146_ren := {
  mixed := by kernel_rfl
  f138 := Tryz.func89.trans (congrArg some (by kernel_rfl))
  f143 := Tryz.func90.trans (congrArg some (by kernel_rfl))
  f146 := Tryz.func40.trans (congrArg some (by kernel_rfl))
  f195 := Tryz.func99.trans (congrArg some (by kernel_rfl))
  f197 := Tryz.func100.trans (congrArg some (by kernel_rfl))
  f217 := Tryz.func110.trans (congrArg some (by kernel_rfl))
  f218 := Tryz.func101.trans (congrArg some (by kernel_rfl))
  f219 := Tryz.func102.trans (congrArg some (by kernel_rfl))
  f221 := Tryz.func76.trans (congrArg some (by kernel_rfl))
  f224 := Tryz.func112.trans (congrArg some (by kernel_rfl))
  f225 := Tryz.func111.trans (congrArg some (by kernel_rfl))
  f260 := Tryz.func109.trans (congrArg some (by kernel_rfl))
  f266 := Tryz.func117.trans (congrArg some (by kernel_rfl))
  f267 := Tryz.func113.trans (congrArg some (by kernel_rfl))
  f268 := Tryz.func88.trans (congrArg some (by kernel_rfl))
  f314 := Tryz.func118.trans (congrArg some (by kernel_rfl))
  t0 := Tryz.underlying0
  a0 := Tryz.isAgg0
  z0 := Tryz.sizeOf0
  v0 := Tryz.zeroValue0
  t3 := Tryz.underlying3
  a3 := Tryz.isAgg3
  z3 := Tryz.sizeOf3
  v3 := Tryz.zeroValue3
  t4 := Tryz.underlying4
  a4 := Tryz.isAgg4
  z4 := Tryz.sizeOf4
  v4 := Tryz.zeroValue4
  t5 := Tryz.underlying5
  a5 := Tryz.isAgg5
  z5 := Tryz.sizeOf5
  v5 := Tryz.zeroValue5
  t9 := Tryz.underlying9
  a9 := Tryz.isAgg9
  z9 := Tryz.sizeOf9
  v9 := Tryz.zeroValue9
  t21 := Tryz.underlying21
  a21 := Tryz.isAgg21
  z21 := Tryz.sizeOf21
  v21 := Tryz.zeroValue21
  t31 := Tryz.underlying74
  a31 := Tryz.isAgg74
  z31 := Tryz.sizeOf74
  v31 := Tryz.zeroValue74
  t46 := Tryz.underlying163
  a46 := Tryz.isAgg163
  z46 := Tryz.sizeOf163
  v46 := Tryz.zeroValue163
  t51 := Tryz.underlying160
  a51 := Tryz.isAgg160
  z51 := Tryz.sizeOf160
  v51 := Tryz.zeroValue160
  t105 := Tryz.underlying155
  a105 := Tryz.isAgg155
  z105 := Tryz.sizeOf155
  v105 := Tryz.zeroValue155
  t119 := Tryz.underlying167
  a119 := Tryz.isAgg167
  z119 := Tryz.sizeOf167
  t138 := Tryz.underlying169
  a138 := Tryz.isAgg169
  z138 := Tryz.sizeOf169
  v138 := Tryz.zeroValue169
  t139 := Tryz.underlying170
  a139 := Tryz.isAgg170
  z139 := Tryz.sizeOf170
  v139 := Tryz.zeroValue170
  t146 := Tryz.underlying171
  a146 := Tryz.isAgg171
  z146 := Tryz.sizeOf171
  v146 := Tryz.zeroValue171
  g1 := by kernel_rfl
  g3 := by kernel_rfl
  g4 := by kernel_rfl }
open Go.RowKit Go.Lib in
theorem Tryz.strings_Split (s sep : ByteArray) (m : Int) (w : World) (hs : s.size < 4294967281) (hm : w.cell? ⟨2, 0, none⟩ = some (.int .i64 m)) (h1 : 1 ≤ sep.size) :
    Calls Tryz.prog 40 #[.string s, .string sep] w fun e w' =>
      e = .returned (.slice (some ⟨w.heap.size, 0, none⟩) (Lib.countB s sep + 1) (Lib.countB s sep + 1)) ∧ w' = w.alloc (.cells ((Lib.splitB sep 0 (Lib.countB s sep) s).map Value.string).toArray 9) := Any.strings_Split Tryz.lays146 (by kernel_rfl) s sep m w hs hm h1
end Go.Proofs
