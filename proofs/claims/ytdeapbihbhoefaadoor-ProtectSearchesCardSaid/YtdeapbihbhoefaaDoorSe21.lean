/- Part 21 of the texts of the claim: N7, N8, N9, N10, N11, QM, Opz. -/
import Derived.Test.YtdeapbihbhoefaaDoorSe20
import Derived.Test.YtdeapbihbhoefaaDoorSe13
import Derived.Test.YtdeapbihbhoefaaDoorSe17

/- The reference's Permitted. -/
namespace Go.Proofs.YtdeapbihbhoefaaDoor
open Go.RowKit
open Calm (bcell Blk)
namespace RelH
open Rel (ons Know)
variable {P : Program} {DS : List Tmp} {w0 : World} {a0 : Act} {T : Ctx → Prop} {Γ : Ctx} {o : Oper} {rest : List Oper}
/-- a state stored into the new block. -/
theorem storeHR {h lv : Int} {n : Nat} {l : List Int} (p v : Tmp) (jp jv : Nat) (hop : o.op = .store 26 (.tmp p) (.tmp v)) (hp : (ons o).contains jp = true) (hv : (ons o).contains jv = true)
    (hΓp : Γ[jp]? = some (some p, NewY 26 3 w0.heap.size)) (hΓv : Γ[jv]? = some (some v, fun _ => KTI h lv n l)) (hg : GOK3 Γ o)
    (hn : walk3 (Sty 26 (KTI h lv n l) w0.heap.size) Tryd.prog DS w0 a0 T (Γ ++ [(o.dst, DoneY 26 (KTI h lv n l) jp w0.heap.size)]) rest) : walk3 (Sty 26 (KTI h lv n l) w0.heap.size) Tryd.prog DS w0 a0 T Γ (o :: rest) :=
  ⟨_, DoneY.st (KTI.ik h lv n l), fun x y he v W ⟨g, h1, h2⟩ => ⟨g, by
      obtain ⟨e, he1, rfl⟩ := List.mem_map.1 (show jp ∈ ons o by simpa using hp)
      obtain ⟨he2, he3⟩ := List.mem_filter.1 he1
      rw [← he e (by simpa using he2) he3]
      exact h1, h2⟩, hg, fun a W x hb hd hbase K Q hK => by
    obtain ⟨e1, g, h1, h2, cs, h3, h4⟩ := dep_at hd jp hp hΓp
    obtain ⟨B, c, h5, h6, h7⟩ := dep_k hd jv hv hΓv
    obtain ⟨cl⟩ := cs
    match cl, h4 with
    | [u0, u1, u2], _ =>
    have hrun := run_storeR h3 hop h1 h5
    have hne : ∀ p, B = some p → p.block ≠ g := fun p hp => (h7 p hp).ne h3 (by decide)
    have hg' := set3_heap (.int .i64 h) (.int .i64 lv) (.slice B n c) h3
    have hkt : KTI h lv n l (.agg #[(.int .i64 h), (.int .i64 lv), .slice B n c]) (((W.setCell ⟨g, 0, none⟩ (.int .i64 h)).setCell ⟨g, 1, none⟩ (.int .i64 lv)).setCell ⟨g, 2, none⟩ (.slice B n c)) :=
      ⟨B, c, rfl, ((h6.sets (fun _ => hne) 0 _).sets (fun _ => hne) 1 _).sets (fun _ => hne) 2 _, fun p hp => (((h7 p hp).sets (hne p hp) 0 _).sets (hne p hp) 1 _).sets (hne p hp) 2 _⟩
    unfold Oper.wp
    rw [hrun]
    refine hK undef _ ⟨g, e1.trans h1, h2, _, hg', hkt⟩ ⟨rfl, rfl, rfl, by simp [World.setCell], by decide, fun k hk => ?_⟩
    rcases Nat.decEq k g with hkg | rfl
    · exact .inl (by rw [Below.heap_setCell _ _ _ _ hkg, Below.heap_setCell _ _ _ _ hkg, Below.heap_setCell _ _ _ _ hkg])
    · exact .inr ⟨h2, ⟨_, h3⟩, _, hg', hkt⟩, hn⟩
end RelH
end Go.Proofs.YtdeapbihbhoefaaDoor

/- The reference's Step. -/
namespace Go.Proofs.YtdeapbihbhoefaaDoor
open Go.RowKit
open Calm (bcell Blk)
end Go.Proofs.YtdeapbihbhoefaaDoor

/- The reference's Release. -/
namespace Go.Proofs.YtdeapbihbhoefaaDoor
open Go.RowKit
open Calm (bcell Blk)

end Go.Proofs.YtdeapbihbhoefaaDoor

/- The reference's Energy. -/
namespace Go.Proofs.YtdeapbihbhoefaaDoor
open Go.RowKit
open Calm (bcell Blk)
set_option maxRecDepth 100000 in
set_option maxHeartbeats 4000000 in
theorem rEnergy_K {n : Nat} {l : List Int} {u : Value} {w : World} (hn : n = l.length) (h5 : n ≤ 5000) (hb : inB 2048 l) (hu : KS n l u w) : Calls Tryd.prog 60 #[u] w (KP (KV (.int .i64 (enF l))) w) := by
  obtain ⟨A, c, rfl, hC⟩ := hu
  have HC := Lib.hid hC
  have HN := Lib.hid hn
  have HEB := Lib.hid (enK_bd hb)
  have HXB : Hid (∀ k : Nat, -2048 ≤ l.getD k 0 ∧ l.getD k 0 ≤ 2048) := Lib.hid (fun k => inB_get hb (by omega) k)
  obtain ⟨R, hR⟩ : ∃ R, R = enF l := ⟨_, rfl⟩
  have HR : Hid (R = enK l n) := Lib.hid (by rw [hR, hn]; rfl)
  rw [← hR]
  clear hC hn hb hR
  go_enter Tryd.func60, Tryd.ntmps60
  go_wp2
  go_loopw [3, 4] (fun s i wr => ∃ k : Nat, k ≤ n ∧ i = (.int .i64 ((k : Int))) ∧ s = (.int .i64 (enK l k)) ∧ Below w.heap.size w wr) (fun _ i _ => n - (intOf i).toNat)
  case atStart => exact ⟨0, Nat.zero_le _, rfl, rfl, Below.refl _ _⟩
  case round =>
    obtain ⟨k, hk, rfl, rfl, hbr⟩ := hrel
    have HBr := Lib.hid hbr
    obtain ⟨e1, e2⟩ := HEB.out k
    have HS2 := Lib.hid (show enK l (k + 1) = enK l k + l.getD k 0 * l.getD k 0 from rfl)
    obtain ⟨s, hs⟩ : ∃ s, s = enK l k := ⟨_, rfl⟩
    rw [← hs] at e1 e2 HS2 ⊢
    have HSK := Lib.hid hs
    clear hs hbr
    by_cases hlt : k < n
    · obtain ⟨b1, o1, hA, hbl, hcell⟩ := (HC.out.below HBr.out) (by rw [← HN.out]; omega)
      subst hA
      have hck := hcell k (by rw [← HN.out]; exact hlt)
      obtain ⟨t1, t2⟩ := HXB.out k
      obtain ⟨x, hx⟩ : ∃ x, x = l.getD k 0 := ⟨_, rfl⟩
      rw [← hx] at hck t1 t2 HS2
      obtain ⟨m1, m2⟩ := sq_bd ⟨t1, t2⟩
      obtain ⟨p, hp⟩ : ∃ p, p = x * x := ⟨_, rfl⟩
      have hp' := hp.symm
      rw [← hp] at m1 m2 HS2
      clear hcell hx hp
      go_wp2
      refine Rel.region3 11 (by kernel_rfl) (by kernel_rfl) (by kernel_rfl) ?_
      simp only [List.take_succ_cons, List.take_zero, List.drop_succ_cons, List.drop_zero, List.filterMap_cons, List.filterMap_nil]
      iterate 11 (apply Rel.op3; (focus (first | exact Rel.gno rfl | exact Rel.gyes _ true _ rfl rfl rfl | exact Rel.gyes _ false _ rfl rfl rfl)); (focus (intro a W hb hd hbase; obtain ⟨hc, hf⟩ := bcell hb; clear hb hf; simp [Rel.deps, Rel.dep1, Rel.ons, Region.binds, Act.eval, KV] at hd; simp only [Act.eval, List.mem_cons, List.not_mem_nil, not_or, and_imp, or_false, Array.getD_eq_getD_getElem?] at hbase; go_simp; (try go_bits); (try rfl); done)); (try simp only [List.nil_append, List.cons_append]))
      refine Rel.done3 ?_
      intro x w21 h21 hx
      simp only [Rel.facts, Nat.zero_add, Nat.reduceAdd] at hx
      obtain ⟨e0, e1, e2, e3, e4, e5, e6, e7, e8, e9, e10, _⟩ := hx
      simp only [Rel.fill, Nat.zero_add, Nat.reduceAdd, e0, e1, e2, e3, e4, e5, e6, e7, e8, e9, e10]
      simp only [Act.put, List.setIfInBounds_toArray, List.set_cons_zero, List.set_cons_succ]
      clear e0 e1 e2 e3 e4 e5 e6 e7 e8 e9 e10
      have HB21 := Lib.hid (HBr.out.trans (h21.mono HBr.out.size))
      go_wp2
      go_roundw
      case rel => exact ⟨k + 1, by omega, by go_num, by rw [HS2.out], HB21.out⟩
      case measure => simp [intOf]; omega
    · obtain rfl : k = n := by omega
      go_wp2
      go_ret
      exact ⟨(.int .i64 s), by first | rfl | (simp; done), by show ((.int .i64 s) : Value) = (.int .i64 R); rw [HSK.out, HR.out], HBr.out⟩
end Go.Proofs.YtdeapbihbhoefaaDoor

/- The reference's CheckLevels. -/
namespace Go.Proofs.YtdeapbihbhoefaaDoor
open Go.RowKit
open Calm (bcell Blk)
theorem asc_first {l : List Int} {k : Nat} (hk : k < l.length) (h : ∀ j, j < k → ascAt l (-2048) 2048 j = 0) (hn : ascAt l (-2048) 2048 k ≠ 0) : ascErr l (-2048) 2048 = ascAt l (-2048) 2048 k := by
  have h1 := firstOf_take (l := (List.range l.length).map (ascAt l (-2048) 2048)) (k := k) (fun j hj => by rw [asc_get l _ _ (by omega)]; exact h j hj) (by simpa using hk) (by rw [asc_get l _ _ hk]; exact hn)
  rw [asc_get l _ _ hk] at h1
  exact h1
theorem asc_zero {l : List Int} (h : ∀ j, j < l.length → ascAt l (-2048) 2048 j = 0) : ascErr l (-2048) 2048 = 0 :=
  firstOf_zero (fun j hj => by rw [asc_get l _ _ (by simpa using hj)]; exact h j (by simpa using hj))

set_option maxRecDepth 100000 in
set_option maxHeartbeats 4000000 in
theorem rCheckLevels_K {n : Nat} {l : List Int} {u : Value} {w : World} (hn : n = l.length) (h5 : n ≤ 5000) (hu : KS n l u w) : Calls Tryd.prog 57 #[u] w (KP (KV (.int .i64 (firstOf [someErr (l.length : Int) 6, ascErr l (-2048) 2048]))) w) := by
  obtain ⟨A, c, rfl, hC⟩ := hu
  have HC := Lib.hid hC
  have HN := Lib.hid hn
  obtain ⟨R, hR⟩ : ∃ R, R = firstOf [someErr (l.length : Int) 6, ascErr l (-2048) 2048] := ⟨_, rfl⟩
  have HR0 : Hid (n = 0 → R = 12) := Lib.hid (fun h0 => by rw [hR, ← hn, h0, show someErr ((0 : Nat) : Int) 6 = 12 by decide]; rfl)
  have HR5 : Hid (6 < n → R = 5) := Lib.hid (fun h0 => by
    have e : someErr (l.length : Int) 6 = 5 := by
      unfold someErr
      rw [if_neg (by omega), if_pos (by omega)]
      rfl
    rw [hR, e]
    rfl)
  have hs : 1 ≤ n → n ≤ 6 → R = firstOf [ascErr l (-2048) 2048] := fun h1 h2 => by
    have e : someErr (l.length : Int) 6 = 0 := by
      unfold someErr
      rw [if_neg (by omega), if_neg (by omega)]
      rfl
    rw [hR, e, fo_cons0]
  have HRk : Hid (∀ k, 1 ≤ n → n ≤ 6 → k < n → (∀ j, j < k → ascAt l (-2048) 2048 j = 0) → ascAt l (-2048) 2048 k ≠ 0 → R = ascAt l (-2048) 2048 k) := Lib.hid (fun k h1 h2 hk q1 q2 => by
    have e := asc_first (by rw [← hn]; exact hk) q1 q2
    rw [hs h1 h2, e, fo_consN q2])
  have HRz : Hid (1 ≤ n → n ≤ 6 → (∀ j, j < n → ascAt l (-2048) 2048 j = 0) → R = 0) := Lib.hid (fun h1 h2 q => by
    rw [hs h1 h2, asc_zero (fun j hj => q j (by rw [hn]; exact hj))]
    rfl)
  rw [← hR]
  clear hC hn hR hs
  go_enter Tryd.func57, Tryd.ntmps57
  by_cases h0 : n = 0
  · have hRr := HR0.out h0
    subst hRr
    subst h0
    go_wp2
    go_ret
    exact ⟨_, by first | rfl | (simp; done), rfl, Below.refl _ _⟩
  by_cases h6 : 6 < n
  · have hRr := HR5.out h6
    subst hRr
    have z1 : (6 : Int) < (n : Int) := by omega
    have z2 : ¬ (n : Int) = 0 := by omega
    go_wp2
    go_ret
    exact ⟨_, by first | rfl | (simp; done), rfl, Below.refl _ _⟩
  have z1 : ¬ (6 : Int) < (n : Int) := by omega
  have z2 : ¬ (n : Int) = 0 := by omega
  have z3 : 1 ≤ n := by omega
  have z4 : n ≤ 6 := by omega
  clear HR0 HR5 h0 h6
  go_wp2
  go_loopw [3] (fun i wr => ∃ k : Nat, k ≤ n ∧ i = (.int .i64 ((k : Int))) ∧ (∀ j, j < k → ascAt l (-2048) 2048 j = 0) ∧ Below w.heap.size w wr) (fun i _ => n - (intOf i).toNat)
  case atStart => exact ⟨0, Nat.zero_le _, rfl, fun j hj => by omega, Below.refl _ _⟩
  case round =>
    obtain ⟨k, hk, rfl, hz, hbr⟩ := hrel
    have HBr := Lib.hid hbr
    have HZ := Lib.hid hz
    clear hz hbr
    by_cases hlt : k < n
    · have hak : ascAt l (-2048) 2048 k = firstOf [rangeErr (l.getD k 0) (-2048) 2048, if 0 < k ∧ l.getD k 0 ≤ l.getD (k - 1) 0 then 11 else 0] := rfl
      have HRK := Lib.hid (HRk.out k z3 z4 hlt HZ.out)
      obtain ⟨b1, o1, hA, hbl, hcell⟩ := (HC.out.below HBr.out) (by rw [← HN.out]; omega)
      subst hA
      have hck := hcell k (by rw [← HN.out]; exact hlt)
      obtain ⟨ak, hA2⟩ : ∃ ak, ak = ascAt l (-2048) 2048 k := ⟨_, rfl⟩
      rw [← hA2] at hak HRK
      have HAK := Lib.hid hA2.symm
      clear hA2
      by_cases hre : rangeErr (l.getD k 0) (-2048) 2048 = 0
      · have hxb := rangeErr_zero.1 hre
        rw [hre, fo_cons0] at hak
        have HPV : Hid (∀ W, Calls Tryd.prog 32 #[(.int .i64 (l.getD k 0))] W fun r w' => r = .returned (.int .i64 0) ∧ W = w') := Lib.hid (fun W => by have := pValue_any (l.getD k 0) W; rwa [hre] at this)
        obtain ⟨x, hx⟩ : ∃ x, x = l.getD k 0 := ⟨_, rfl⟩
        rw [← hx] at hck hak HPV hxb
        obtain ⟨x1, x2⟩ := hxb
        rcases Nat.eq_zero_or_pos k with hk0 | hk0
        · have hd : decide ((0 : Int) < (k : Int)) = false := decide_eq_false (by omega)
          have hd2 : decide (0 < k) = false := decide_eq_false (by omega)
          have hak0 : ak = 0 := by rw [hak, if_neg (by omega)]; rfl
          have HZ2 := Lib.hid (HAK.out.trans hak0)
          clear hcell hx hak hre hk0
          go_wp2_with (go_at_call 32; refine (HPV.out _).mono ?_; rintro r w' ⟨rfl, rfl⟩)
          refine Calm.all_below (by kernel_rfl) (by kernel_rfl) ?_
          (first | (apply Calm.op_move; (focus rfl); (focus (first | exact .inl rfl | exact .inr rfl)); (focus ((try simp only [Act.eval, Array.getD_eq_getD_getElem?, List.getElem?_toArray, List.getElem?_cons_succ, List.getElem?_cons_zero, Option.getD_some]); rfl)); (try simp only [Act.put, List.setIfInBounds_toArray, List.set_cons_zero, List.set_cons_succ])) | (apply Calm.op_not; (focus rfl); (try simp only [Act.put, List.setIfInBounds_toArray, List.set_cons_zero, List.set_cons_succ])) | (apply Calm.op; (focus rfl); (focus (intro W hb; obtain ⟨hc, hf⟩ := bcell hb; clear hb hf; go_simp; (try go_bits); (try rfl); done)); (try simp only [Act.put, List.setIfInBounds_toArray, List.set_cons_zero, List.set_cons_succ])))
          (first | (apply Calm.op_move; (focus rfl); (focus (first | exact .inl rfl | exact .inr rfl)); (focus ((try simp only [Act.eval, Array.getD_eq_getD_getElem?, List.getElem?_toArray, List.getElem?_cons_succ, List.getElem?_cons_zero, Option.getD_some]); rfl)); (try simp only [Act.put, List.setIfInBounds_toArray, List.set_cons_zero, List.set_cons_succ])) | (apply Calm.op_not; (focus rfl); (try simp only [Act.put, List.setIfInBounds_toArray, List.set_cons_zero, List.set_cons_succ])) | (apply Calm.op; (focus rfl); (focus (intro W hb; obtain ⟨hc, hf⟩ := bcell hb; clear hb hf; go_simp; (try go_bits); (try rfl); done)); (try simp only [Act.put, List.setIfInBounds_toArray, List.set_cons_zero, List.set_cons_succ])))
          (try simp only [hd, hd2])
          (first | (apply Calm.op_move; (focus rfl); (focus (first | exact .inl rfl | exact .inr rfl)); (focus ((try simp only [Act.eval, Array.getD_eq_getD_getElem?, List.getElem?_toArray, List.getElem?_cons_succ, List.getElem?_cons_zero, Option.getD_some]); rfl)); (try simp only [Act.put, List.setIfInBounds_toArray, List.set_cons_zero, List.set_cons_succ])) | (apply Calm.op_not; (focus rfl); (try simp only [Act.put, List.setIfInBounds_toArray, List.set_cons_zero, List.set_cons_succ])) | (apply Calm.op; (focus rfl); (focus (intro W hb; obtain ⟨hc, hf⟩ := bcell hb; clear hb hf; go_simp; (try go_bits); (try rfl); done)); (try simp only [Act.put, List.setIfInBounds_toArray, List.set_cons_zero, List.set_cons_succ])))
          iterate 10 ((with_reducible refine Calm.op_not ?_ ?_); (focus rfl); (try simp only [Act.put, List.setIfInBounds_toArray, List.set_cons_zero, List.set_cons_succ]))
          (first | (apply Calm.op_move; (focus rfl); (focus (first | exact .inl rfl | exact .inr rfl)); (focus ((try simp only [Act.eval, Array.getD_eq_getD_getElem?, List.getElem?_toArray, List.getElem?_cons_succ, List.getElem?_cons_zero, Option.getD_some]); rfl)); (try simp only [Act.put, List.setIfInBounds_toArray, List.set_cons_zero, List.set_cons_succ])) | (apply Calm.op_not; (focus rfl); (try simp only [Act.put, List.setIfInBounds_toArray, List.set_cons_zero, List.set_cons_succ])) | (apply Calm.op; (focus rfl); (focus (intro W hb; obtain ⟨hc, hf⟩ := bcell hb; clear hb hf; go_simp; (try go_bits); (try rfl); done)); (try simp only [Act.put, List.setIfInBounds_toArray, List.set_cons_zero, List.set_cons_succ])))
          refine wpQuiet_nil ?_
          intro w2 hb2
          obtain ⟨hb2c, hb2f⟩ := bcell hb2
          have hb2z := hb2.size
          (try simp at hb2z)
          (try have hb2z0 : w.heap.size < w2.heap.size := by omega)
          (try have hb2z1 : w.heap.size + 1 < w2.heap.size := by omega)
          (try have hb2z2 : w.heap.size + 1 + 1 < w2.heap.size := by omega)
          (try have hb2z3 : w.heap.size + 1 + 1 + 1 < w2.heap.size := by omega)
          (try have hb2z4 : w.heap.size + 1 + 1 + 1 + 1 < w2.heap.size := by omega)
          (try have hb2z5 : w.heap.size + 1 + 1 + 1 + 1 + 1 < w2.heap.size := by omega)
          have HB2 := Lib.hid (HBr.out.trans (hb2.mono HBr.out.size))
          go_wp2
          go_roundw
          case rel => exact ⟨k + 1, by omega, by go_num, fun j hj => by
            rcases Nat.lt_or_ge j k with q | q
            · exact HZ.out j q
            · obtain rfl : j = k := by omega
              exact HZ2.out, HB2.out⟩
          case measure => simp [intOf]; omega
        · obtain ⟨m, rfl⟩ : ∃ m, k = m + 1 := ⟨k - 1, by omega⟩
          have hcm := hcell m (by rw [← HN.out]; omega)
          have hd : decide ((0 : Int) < (m : Int) + 1) = true := decide_eq_true (by omega)
          have hm2 : (m : Int) + 1 - 1 = (m : Int) := by omega
          have hm3 : m < n := by omega
          have hm4 : (m : Int) < (n : Int) := by omega
          rw [show m + 1 - 1 = m from rfl] at hak
          obtain ⟨y, hy⟩ : ∃ y, y = l.getD m 0 := ⟨_, rfl⟩
          rw [← hy] at hcm hak
          push_cast at hck
          by_cases hle : x ≤ y
          · have hak0 : ak = 11 := by rw [hak, if_pos ⟨by omega, hle⟩]; rfl
            have hRr := HRK.out (by rw [hak0]; decide)
            have hR11 : R = 11 := hRr.trans hak0
            subst hR11
            clear hcell hx hak hre hy hRr
            go_wp2_with (go_at_call 32; refine (HPV.out _).mono ?_; rintro r w' ⟨rfl, rfl⟩)
            refine Calm.all_below (by kernel_rfl) (by kernel_rfl) ?_
            (first | (apply Calm.op_move; (focus rfl); (focus (first | exact .inl rfl | exact .inr rfl)); (focus ((try simp only [Act.eval, Array.getD_eq_getD_getElem?, List.getElem?_toArray, List.getElem?_cons_succ, List.getElem?_cons_zero, Option.getD_some]); rfl)); (try simp only [Act.put, List.setIfInBounds_toArray, List.set_cons_zero, List.set_cons_succ])) | (apply Calm.op_not; (focus rfl); (try simp only [Act.put, List.setIfInBounds_toArray, List.set_cons_zero, List.set_cons_succ])) | (apply Calm.op; (focus rfl); (focus (intro W hb; obtain ⟨hc, hf⟩ := bcell hb; clear hb hf; go_simp; (try go_bits); (try rfl); done)); (try simp only [Act.put, List.setIfInBounds_toArray, List.set_cons_zero, List.set_cons_succ])))
            (first | (apply Calm.op_move; (focus rfl); (focus (first | exact .inl rfl | exact .inr rfl)); (focus ((try simp only [Act.eval, Array.getD_eq_getD_getElem?, List.getElem?_toArray, List.getElem?_cons_succ, List.getElem?_cons_zero, Option.getD_some]); rfl)); (try simp only [Act.put, List.setIfInBounds_toArray, List.set_cons_zero, List.set_cons_succ])) | (apply Calm.op_not; (focus rfl); (try simp only [Act.put, List.setIfInBounds_toArray, List.set_cons_zero, List.set_cons_succ])) | (apply Calm.op; (focus rfl); (focus (intro W hb; obtain ⟨hc, hf⟩ := bcell hb; clear hb hf; go_simp; (try go_bits); (try rfl); done)); (try simp only [Act.put, List.setIfInBounds_toArray, List.set_cons_zero, List.set_cons_succ])))
            (try simp only [hd])
            repeat (first | (apply Calm.op_move; (focus rfl); (focus (first | exact .inl rfl | exact .inr rfl)); (focus ((try simp only [Act.eval, Array.getD_eq_getD_getElem?, List.getElem?_toArray, List.getElem?_cons_succ, List.getElem?_cons_zero, Option.getD_some]); rfl)); (try simp only [Act.put, List.setIfInBounds_toArray, List.set_cons_zero, List.set_cons_succ])) | (apply Calm.op_not; (focus rfl); (try simp only [Act.put, List.setIfInBounds_toArray, List.set_cons_zero, List.set_cons_succ])) | (apply Calm.op; (focus rfl); (focus (intro W hb; obtain ⟨hc, hf⟩ := bcell hb; clear hb hf; go_simp; (try go_bits); (try rfl); done)); (try simp only [Act.put, List.setIfInBounds_toArray, List.set_cons_zero, List.set_cons_succ])))
            refine wpQuiet_nil ?_
            intro w2 hb2
            obtain ⟨hb2c, hb2f⟩ := bcell hb2
            have hb2z := hb2.size
            (try simp at hb2z)
            (try have hb2z0 : w.heap.size < w2.heap.size := by omega)
            (try have hb2z1 : w.heap.size + 1 < w2.heap.size := by omega)
            (try have hb2z2 : w.heap.size + 1 + 1 < w2.heap.size := by omega)
            (try have hb2z3 : w.heap.size + 1 + 1 + 1 < w2.heap.size := by omega)
            (try have hb2z4 : w.heap.size + 1 + 1 + 1 + 1 < w2.heap.size := by omega)
            (try have hb2z5 : w.heap.size + 1 + 1 + 1 + 1 + 1 < w2.heap.size := by omega)
            have HB2 := Lib.hid (HBr.out.trans (hb2.mono HBr.out.size))
            go_wp2
            go_ret
            exact ⟨_, by first | rfl | (simp; done), rfl, HB2.out⟩
          · have hak0 : ak = 0 := by rw [hak, if_neg (by omega)]; rfl
            have HZ2 := Lib.hid (HAK.out.trans hak0)
            clear hcell hx hak hre hy
            go_wp2_with (go_at_call 32; refine (HPV.out _).mono ?_; rintro r w' ⟨rfl, rfl⟩)
            refine Calm.all_below (by kernel_rfl) (by kernel_rfl) ?_
            (first | (apply Calm.op_move; (focus rfl); (focus (first | exact .inl rfl | exact .inr rfl)); (focus ((try simp only [Act.eval, Array.getD_eq_getD_getElem?, List.getElem?_toArray, List.getElem?_cons_succ, List.getElem?_cons_zero, Option.getD_some]); rfl)); (try simp only [Act.put, List.setIfInBounds_toArray, List.set_cons_zero, List.set_cons_succ])) | (apply Calm.op_not; (focus rfl); (try simp only [Act.put, List.setIfInBounds_toArray, List.set_cons_zero, List.set_cons_succ])) | (apply Calm.op; (focus rfl); (focus (intro W hb; obtain ⟨hc, hf⟩ := bcell hb; clear hb hf; go_simp; (try go_bits); (try rfl); done)); (try simp only [Act.put, List.setIfInBounds_toArray, List.set_cons_zero, List.set_cons_succ])))
            (first | (apply Calm.op_move; (focus rfl); (focus (first | exact .inl rfl | exact .inr rfl)); (focus ((try simp only [Act.eval, Array.getD_eq_getD_getElem?, List.getElem?_toArray, List.getElem?_cons_succ, List.getElem?_cons_zero, Option.getD_some]); rfl)); (try simp only [Act.put, List.setIfInBounds_toArray, List.set_cons_zero, List.set_cons_succ])) | (apply Calm.op_not; (focus rfl); (try simp only [Act.put, List.setIfInBounds_toArray, List.set_cons_zero, List.set_cons_succ])) | (apply Calm.op; (focus rfl); (focus (intro W hb; obtain ⟨hc, hf⟩ := bcell hb; clear hb hf; go_simp; (try go_bits); (try rfl); done)); (try simp only [Act.put, List.setIfInBounds_toArray, List.set_cons_zero, List.set_cons_succ])))
            (try simp only [hd])
            repeat (first | (apply Calm.op_move; (focus rfl); (focus (first | exact .inl rfl | exact .inr rfl)); (focus ((try simp only [Act.eval, Array.getD_eq_getD_getElem?, List.getElem?_toArray, List.getElem?_cons_succ, List.getElem?_cons_zero, Option.getD_some]); rfl)); (try simp only [Act.put, List.setIfInBounds_toArray, List.set_cons_zero, List.set_cons_succ])) | (apply Calm.op_not; (focus rfl); (try simp only [Act.put, List.setIfInBounds_toArray, List.set_cons_zero, List.set_cons_succ])) | (apply Calm.op; (focus rfl); (focus (intro W hb; obtain ⟨hc, hf⟩ := bcell hb; clear hb hf; go_simp; (try go_bits); (try rfl); done)); (try simp only [Act.put, List.setIfInBounds_toArray, List.set_cons_zero, List.set_cons_succ])))
            refine wpQuiet_nil ?_
            intro w2 hb2
            obtain ⟨hb2c, hb2f⟩ := bcell hb2
            have hb2z := hb2.size
            (try simp at hb2z)
            (try have hb2z0 : w.heap.size < w2.heap.size := by omega)
            (try have hb2z1 : w.heap.size + 1 < w2.heap.size := by omega)
            (try have hb2z2 : w.heap.size + 1 + 1 < w2.heap.size := by omega)
            (try have hb2z3 : w.heap.size + 1 + 1 + 1 < w2.heap.size := by omega)
            (try have hb2z4 : w.heap.size + 1 + 1 + 1 + 1 < w2.heap.size := by omega)
            (try have hb2z5 : w.heap.size + 1 + 1 + 1 + 1 + 1 < w2.heap.size := by omega)
            have HB2 := Lib.hid (HBr.out.trans (hb2.mono HBr.out.size))
            go_wp2
            go_roundw
            case rel => exact ⟨m + 1 + 1, by omega, by go_num, fun j hj => by
              rcases Nat.lt_or_ge j (m + 1) with q | q
              · exact HZ.out j q
              · obtain rfl : j = m + 1 := by omega
                exact HZ2.out, HB2.out⟩
            case measure => simp [intOf]; omega
      · rw [fo_consN hre] at hak
        have hRr := HRK.out (by rw [hak]; exact hre)
        rw [hak] at hRr
        have HPV : Hid (∀ W, Calls Tryd.prog 32 #[(.int .i64 (l.getD k 0))] W fun r w' => r = .returned (.int .i64 R) ∧ W = w') := Lib.hid (fun W => by have := pValue_any (l.getD k 0) W; rwa [← hRr] at this)
        have hRne : ¬ R = 0 := by rw [hRr]; exact hre
        obtain ⟨x, hx⟩ : ∃ x, x = l.getD k 0 := ⟨_, rfl⟩
        rw [← hx] at hck HPV
        clear hcell hx hak hre hRr
        go_wp2_with (go_at_call 32; refine (HPV.out _).mono ?_; rintro r w' ⟨rfl, rfl⟩)
        go_ret
        exact ⟨_, by first | rfl | (simp; done), rfl, HBr.out⟩
    · obtain rfl : k = n := by omega
      have hRz := HRz.out z3 z4 HZ.out
      subst hRz
      go_wp2
      go_ret
      exact ⟨_, by first | rfl | (simp; done), rfl, HBr.out⟩
end Go.Proofs.YtdeapbihbhoefaaDoor

/- Plain laws of ProtectLoudest: one more output, and the lists by their codes. -/
namespace Go.Proofs.YtdeapbihbhoefaaDoor
open Go.RowKit

end Go.Proofs.YtdeapbihbhoefaaDoor

/- Steps of drawn regions whose side conditions are found by themselves. -/
namespace Go.Proofs.YtdeapbihbhoefaaDoor
open Go.RowKit
open Calm (bcell Blk)
namespace Rel
section
variable {P : Program} {DS : List Tmp} {w0 : World} {a0 : Act} {T : Ctx → Prop} {Γ : Ctx} {o : Oper} {rest : List Oper}
theorem opz {v : Value} (hg : GOK3 Γ o := by (first | exact Rel.gno rfl | exact Rel.gyes _ true _ rfl rfl rfl | exact Rel.gyes _ false _ rfl rfl rfl)) (h : (∀ (a : Act) (W : World), Below w0.heap.size w0 W → deps Γ a W (ons o) → (∀ t, t ∉ DS → a.eval (.tmp t) = a0.eval (.tmp t)) → (execOp a.eval o).run P W = .ok (.value v) W) := by intro a W hb hd hbase; obtain ⟨hc, hf⟩ := bcell hb; clear hb hf; simp [Rel.deps, Rel.dep1, Rel.ons, Region.binds, Act.eval, KV] at hd; simp only [Act.eval, List.mem_cons, List.not_mem_nil, not_or, and_imp, or_false, Array.getD_eq_getD_getElem?] at hbase; go_simp; (try go_bits); (try rfl); done)
    (hn : walk3 P DS w0 a0 T (Γ ++ [(o.dst, fun u _ => u = v)]) rest) : walk3 P DS w0 a0 T Γ (o :: rest) := op3 v hg h hn
end
end Rel
namespace RelH
open Rel (ons)
section
variable {S : World → World → Prop} {P : Program} {DS : List Tmp} {w0 : World} {a0 : Act} {T : Ctx → Prop} {Γ : Ctx} {o : Oper} {rest : List Oper}
theorem opz (hr : ∀ W, S W W) {v : Value} (hg : GOK3 Γ o := by (first | exact RelH.gno rfl | exact RelH.gyes _ true _ rfl rfl rfl | exact RelH.gyes _ false _ rfl rfl rfl)) (h : (∀ (a : Act) (W : World) (x : Nat → Value), S w0 W → deps x Γ a W (ons o) → (∀ t, t ∉ DS → a.eval (.tmp t) = a0.eval (.tmp t)) → (execOp a.eval o).run P W = .ok (.value v) W) := by intro a W x hS hd hbase; have hb := hS.below (Nat.le_refl _); clear hS; obtain ⟨hc, hf⟩ := bcell hb; clear hb hf; simp [RelH.deps, RelH.dep1, Rel.ons, Region.binds, Act.eval, KV] at hd; simp only [Act.eval, List.mem_cons, List.not_mem_nil, not_or, and_imp, or_false, Array.getD_eq_getD_getElem?] at hbase; go_simp; (try go_bits); (try rfl); done)
    (hn : walk3 S P DS w0 a0 T (Γ ++ [(o.dst, fun _ u _ => u = v)]) rest) : walk3 S P DS w0 a0 T Γ (o :: rest) := op3 hr v hg h hn
end
end RelH
/-- nothing old turns, as can be seen. -/
theorem bel {b : Nat} {W W' : World} (h : Below b W W' := by (repeat (first | (with_reducible exact Below.refl _ _) | ((with_reducible refine Below.setCell ?_ ?_ _); rotate_left 1; (focus (first | (simp; done) | (simp; omega) | (simp at *; omega)))) | ((with_reducible refine Below.alloc ?_ ?_ _); rotate_left 1; (focus (first | (simp; done) | (simp; omega) | (simp at *; omega))))))) : Below b W W' := h
end Go.Proofs.YtdeapbihbhoefaaDoor
