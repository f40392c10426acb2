/- Part 21 of the texts of the claim: F3, F4, F5, F6. -/
import Derived.Test.YtpkldjlljoledaaGreatDoorMc20

/- Contract of the reference's chosen, one more to choose; and all. -/
namespace Go.Proofs.YtpkldjlljoledaaGreatDoor
open Go.RowKit
open Calm (bcell Blk)

theorem run_app_empty {P : Program} (B : Nat) (t ty e : TypeId) (i : TypeInfo) (z : Value) (bytes : Nat) (ht : P.underlying t = some (.slice e)) (hi : P.info? e = some i) (hz : i.zero = some z) (hsize : i.size = 1) (hby : i.bytes = bytes) (hzs : z.cells.size = 1)
    (W : World) (g : Nat) (hown : W.ownsRow B e 1 (.slice (some ⟨g, 0, none⟩) 0 0) 0 []) (hB : B ≤ W.heap.size) (n : Nat) (news : List Value) (hl : news.length = n) (h1 : ∀ u ∈ news, u.oneCell' = true) (h63 : n ≤ maxLen) (hbytes : n * bytes ≤ 140737488355328)
    (A : Option Addr) (c : Nat) (hc : 0 < n → ∃ ad, A = some ad ∧ ∀ j u, news[j]? = some u → W.cell? (ad.add j) = some u) :
    ∃ v' W', (Builtin.append_ #[t, t] ty #[.slice (some ⟨g, 0, none⟩) 0 0, .slice A n c]).run P W = .ok v' W' ∧ W'.ownsRow B e 1 v' n news ∧ Below W.heap.size W W' := by
  rcases Nat.eq_zero_or_pos n with rfl | hpos
  · obtain rfl : news = [] := List.eq_nil_of_length_eq_zero hl
    exact ⟨_, W, Rel.run_append_zero (P := P) W t ty e i z ht hi hz ⟨g, 0, none⟩ A c, hown, Below.refl _ _⟩
  · obtain ⟨ad, rfl, hc2⟩ := hc hpos
    obtain ⟨v', w', hrun, r1, r2⟩ := run_append_arg_grows (P := P) W t ty e i z 1 bytes ht hi hz hsize hby hzs (by decide) ⟨g, 0, none⟩ 0 0 [] (by simp) (by simp) ad n c news (by omega) hc2 (by omega) (by omega) (by rw [Nat.zero_add]; exact hbytes)
    refine ⟨v', w', hrun, ?_, (Below.refl W.heap.size W).grown r2 (Nat.le_refl _) (fun k hk => by cases hk)⟩
    have r1' : w'.ownsRow W.heap.size e 1 v' n news := by simpa using r1
    exact ownsRow_base r1' hB
theorem ownsRow_sett0 {n : Nat} {x : Value} {B : Nat} {W W' : World} {e m : Nat} {v : Value} {ys : List Value} (h : W.ownsRow 0 e 1 v m ys) (hS : Sett n x B W W') (hy : ys.set n x = ys) : W'.ownsRow 0 e 1 v m ys := by
  refine ⟨h.1, ?_⟩
  rcases h.2 with h2 | ⟨g, cap, cur, h1, h2, h3, h4, h5, h6, h7⟩
  · exact .inl h2
  · refine .inr ?_
    rcases Nat.lt_or_ge g B with hlt | hge
    · exact ⟨g, cap, cur, h1, h2, (hS.below.block g hlt).trans h3, h4, h5, h6, h7⟩
    · rcases hS.row g hge (Array.getElem?_eq_some_iff.1 h3).1 with e1 | ⟨cur', t, e1, e2⟩
      · exact ⟨g, cap, cur, h1, h2, e1.trans h3, h4, h5, h6, h7⟩
      · rw [h3] at e1
        cases e1
        refine ⟨g, cap, _, h1, h2, e2, h4, h5, by simpa using h6, ?_⟩
        rw [Array.toList_setIfInBounds, take_set_list, h7, hy]
theorem ints_set {taken t : List Nat} {i : Nat} : (ints (taken ++ [i] ++ t)).set taken.length (.int .i64 ((i : Nat))) = ints (taken ++ [i] ++ t) := by
  have e : ints (taken ++ [i] ++ t) = ints taken ++ (.int .i64 ((i : Nat))) :: ints t := by simp [ints]
  have hl : (ints taken).length = taken.length := by simp [ints]
  rw [e, ← hl]
  simp
theorem ints_one (l : List Nat) : ∀ u ∈ ints l, u.oneCell' = true := by
  intro u hu
  obtain ⟨n, _, rfl⟩ := List.mem_map.1 hu
  rfl
theorem ints_at {W : World} {A : Option Addr} {l : List Nat} (h : Cells W A (toI l)) (n : Nat) (hn : n = l.length) : 0 < n → ∃ ad, A = some ad ∧ ∀ j u, (ints l)[j]? = some u → W.cell? (ad.add j) = some u := by
  have := cells_at h n (by rw [toI_len]; exact hn)
  simpa [ints, toI, List.map_map] using this
set_option maxRecDepth 100000 in
set_option maxHeartbeats 8000000 in
theorem chosen_succ (re le bl ma st lo m k r : Int) (zs : List (Int × Int × Int)) (P : List Nat → Bool) (N kk : Nat) (A : Option Addr) (c : Nat) (hN : N ≤ 8)
    (IH : Hid (∀ (tk : List Nat) (f : Nat) (T : Option Addr) (ct : Nat) (W : World), RCells W A zs → W.ownsRow 0 3 1 (.slice T tk.length ct) tk.length (ints tk) → tk.length + kk ≤ 8 → (∀ i ∈ tk, i < N) → f ≤ 8 →
      Calls Tryz.prog 66 #[.agg #[(.int .i64 (re)), (.int .i64 (le)), (.int .i64 (bl)), (.int .i64 (ma)), (.int .i64 (st)), (.int .i64 (lo)), (.int .i64 (m)), (.int .i64 (k)), (.int .i64 (r))], .slice A N c, .slice T tk.length ct, (.int .i64 (f)), (.int .i64 (kk))] W (ChoE P N kk tk f W)))
    (taken : List Nat) (f : Nat) (T : Option Addr) (ct : Nat) (w : World) (HC : Hid (RCells w A zs)) (HT : Hid (w.ownsRow 0 3 1 (.slice T taken.length ct) taken.length (ints taken))) (ht : taken.length + (kk + 1) ≤ 8) (HB : Hid (∀ i ∈ taken, i < N)) (hf : f ≤ 8) :
    Calls Tryz.prog 66 #[.agg #[(.int .i64 (re)), (.int .i64 (le)), (.int .i64 (bl)), (.int .i64 (ma)), (.int .i64 (st)), (.int .i64 (lo)), (.int .i64 (m)), (.int .i64 (k)), (.int .i64 (r))], .slice A N c, .slice T taken.length ct, (.int .i64 (f)), (.int .i64 ((kk : Int) + 1))] w (ChoE P N (kk + 1) taken f w) := by
  obtain ⟨i1, hi1, jz0, jz1, jz2⟩ := info_parts Tryz.infoI
  have HCT := Lib.hid (own_any HT.out)
  have hk1 : ¬ (kk : Int) + 1 = 0 := by omega
  obtain ⟨M, hM⟩ : ∃ M, M = taken.length := ⟨_, rfl⟩
  have HM := Lib.hid hM
  rw [← hM] at HT ht ⊢
  clear hM
  have hB0 := Below.refl w.heap.size w
  have HB1 := Lib.hid (hB0.alloc hB0.size (.cells #[(.int .i64 (re)), (.int .i64 (le)), (.int .i64 (bl)), (.int .i64 (ma)), (.int .i64 (st)), (.int .i64 (lo)), (.int .i64 (m)), (.int .i64 (k)), (.int .i64 (r))] 25))
  have HK1 := Lib.hid (Blk.new w 25 #[(.int .i64 (re)), (.int .i64 (le)), (.int .i64 (bl)), (.int .i64 (ma)), (.int .i64 (st)), (.int .i64 (lo)), (.int .i64 (m)), (.int .i64 (k)), (.int .i64 (r))])
  clear hB0
  go_enter Tryz.func66, Tryz.ntmps66
  go_wp2
  go_loopw [12] (fun x wr => ∃ i : Nat, f ≤ i ∧ i ≤ 8 ∧ x = (.int .i64 ((i : Nat))) ∧ (∀ j, f ≤ j → j < i → chosenF P N kk (taken ++ [j]) (j + 1) = none) ∧ Below w.heap.size w wr ∧ Blk wr w.heap.size #[(.int .i64 (re)), (.int .i64 (le)), (.int .i64 (bl)), (.int .i64 (ma)), (.int .i64 (st)), (.int .i64 (lo)), (.int .i64 (m)), (.int .i64 (k)), (.int .i64 (r))]) (fun x _ => N - (intOf x).toNat)
  case atStart => exact ⟨f, Nat.le_refl _, hf, rfl, fun j h1 h2 => by omega, HB1.out, HK1.out⟩
  case round =>
    clear HB1 HK1
    obtain ⟨i, hfi, hi8, rfl, hnone, hB, K⟩ := hrel
    have HNO := Lib.hid hnone
    have HBR := Lib.hid hB
    have HK := Lib.hid K
    have hsz := hB.size
    obtain ⟨c0, c1, c2, c3, c4, c5, c6, c7, c8, cl, -⟩ := K.o9
    clear hnone hB K
    by_cases hlt : i < N
    · have hTC := Lib.hid (fun (W : World) (hS : Sett M (.int .i64 ((i : Nat))) wr.heap.size wr W) => bcell hS.below)
      have hext : ∀ l, chosenF P N kk (taken ++ [i]) (i + 1) = some l → (ints l).set M (.int .i64 ((i : Nat))) = ints l := fun l hl => by
        obtain ⟨t, rfl, _, _⟩ := chosenF_ext kk _ _ hl
        rw [HM.out]
        exact ints_set
      have HEXT := Lib.hid hext
      have hres : ∀ l, chosenF P N kk (taken ++ [i]) (i + 1) = some l → chosenF P N (kk + 1) taken f = some l := fun l hl => by
        show (List.range' f (N - f)).findSome? _ = some l
        exact findSome_at (N - f) f i (fun j h1 h2 => HNO.out j h1 h2) hfi (by omega) hl
      have HRES := Lib.hid hres
      have hlen1 : (taken ++ [i]).length = M + 1 := by rw [List.length_append, ← HM.out]; rfl
      have HL1 := Lib.hid hlen1
      clear hext hres hlen1
      obtain ⟨res, hrs⟩ : ∃ res, res = chosenF P N kk (taken ++ [i]) (i + 1) := ⟨_, rfl⟩
      have HRS := Lib.hid hrs
      clear hrs
      go_wp2
      refine RelH.region3 (S := Sett M (.int .i64 ((i : Nat))) wr.heap.size) Sett.trans Sett.drawn 17 (by kernel_rfl) (by kernel_rfl) (by kernel_rfl) ?_
      simp only [List.take_succ_cons, List.take_zero, List.drop_succ_cons, List.drop_zero, List.filterMap_cons, List.filterMap_nil]
      iterate 2 (apply RelH.op3 Sett.refl; (focus (first | exact RelH.gno rfl | exact RelH.gyes _ true _ rfl rfl rfl | exact RelH.gyes _ false _ rfl rfl rfl)); (focus (intro a W x hb hd hbase; obtain ⟨hc, hf⟩ := hTC.out W hb; clear hb hf; simp [RelH.deps, RelH.dep1, Rel.ons, Region.binds, Act.eval] at hd; simp only [Act.eval, List.mem_cons, List.not_mem_nil, not_or, and_imp, or_false, Array.getD_eq_getD_getElem?] at hbase; go_simp; (try go_bits); (try rfl); done)); (try simp only [List.nil_append, List.cons_append]))
      refine RelH.opW3 (fun _ => Rel.Empty wr.heap.size 3 1) (fun x v W W' h hS => ⟨h.1, ownsRow_sett h.2 hS (by simp)⟩) RelH.loc_const (RelH.gno rfl) ?_ ?_
      · intro a W x hb hd hbase
        refine ⟨.slice (some ⟨W.heap.size, 0, none⟩) 0 0, W.alloc (.cells #[] 3), ?_, ⟨⟨_, rfl⟩, by simp, .inr ⟨_, 0, #[], rfl, hb.below.size, by show (W.heap.push _)[W.heap.size]? = _; simp, Nat.le_refl _, Nat.zero_le _, by simp, by simp⟩⟩, Sett.of ((Below.refl _ _).alloc (Nat.le_refl _) _) hb.below.size⟩
        go_simp
        (first | done | rfl | (refine ⟨?_, ?_⟩ <;> rfl))
      (try simp only [List.nil_append, List.cons_append])
      iterate 1 (apply RelH.op3 Sett.refl; (focus (first | exact RelH.gno rfl | exact RelH.gyes _ true _ rfl rfl rfl | exact RelH.gyes _ false _ rfl rfl rfl)); (focus (intro a W x hb hd hbase; obtain ⟨hc, hf⟩ := hTC.out W hb; clear hb hf; simp [RelH.deps, RelH.dep1, Rel.ons, Region.binds, Act.eval] at hd; simp only [Act.eval, List.mem_cons, List.not_mem_nil, not_or, and_imp, or_false, Array.getD_eq_getD_getElem?] at hbase; go_simp; (try go_bits); (try rfl); done)); (try simp only [List.nil_append, List.cons_append]))
      refine RelH.app3 (fun _ u W => W.ownsRow wr.heap.size 3 1 u M (ints taken)) (fun x v W W' h hS => ownsRow_sett h hS (by rw [List.set_eq_of_length_le (by simp [ints]; have := HM.out; omega)])) RelH.loc_const (.tmp 35) (.tmp 36) 43 rfl (RelH.gno rfl) ?_ ?_
      · intro a W x hb hd hbase
        simp [RelH.deps, RelH.dep1, Rel.ons, Region.binds] at hd
        obtain ⟨⟨_, hs⟩, ⟨_, hx⟩⟩ := hd
        obtain ⟨⟨g, hg⟩, ho⟩ := hs
        rw [hx, hg]
        rw [hg] at ho
        obtain ⟨v', W', r1, r2, r3⟩ := run_app_empty (P := Tryz.prog) wr.heap.size 43 43 3 i1 _ 8 Tryz.underlying43 hi1 jz0 jz1 jz2 rfl W g ho hb.below.size M (ints taken) (by simp [ints]; exact HM.out.symm) (ints_one _) (by unfold maxLen; omega) (by omega) T ct (ints_at (HCT.out.below (HBR.out.trans (hb.below.mono hsz))) M HM.out)
        exact ⟨v', W', r1, r2, Sett.of r3 hb.below.size⟩
      (try simp only [List.nil_append, List.cons_append])
      iterate 1 (apply RelH.op3 Sett.refl; (focus (first | exact RelH.gno rfl | exact RelH.gyes _ true _ rfl rfl rfl | exact RelH.gyes _ false _ rfl rfl rfl)); (focus (intro a W x hb hd hbase; obtain ⟨hc, hf⟩ := hTC.out W hb; clear hb hf; simp [RelH.deps, RelH.dep1, Rel.ons, Region.binds, Act.eval] at hd; simp only [Act.eval, List.mem_cons, List.not_mem_nil, not_or, and_imp, or_false, Array.getD_eq_getD_getElem?] at hbase; go_simp; (try go_bits); (try rfl); done)); (try simp only [List.nil_append, List.cons_append]))
      refine RelH.opW3 (fun _ => Rel.NewS wr.heap.size 1 1 #[(.int .i64 ((i : Nat)))]) (fun x v W W' h hS => by
        obtain ⟨g, h1, h2, h3⟩ := h
        refine ⟨g, h1, h2, Blk.sett h3 hS h2 ?_⟩
        apply Array.toList_inj.1
        rw [Array.toList_setIfInBounds]
        cases M with
        | zero => rfl
        | succ q => simp) RelH.loc_const (RelH.gno rfl) ?_ ?_
      · intro a W x hb hd hbase
        simp [RelH.deps, RelH.dep1, Rel.ons, Region.binds, Act.eval] at hd
        refine ⟨.slice (some ⟨W.heap.size, 0, none⟩) 1 1, W.alloc (.cells #[(.int .i64 ((i : Nat)))] 3), ?_, ⟨_, rfl, hb.below.size, Calm.Blk.new W _ _⟩, Sett.of ((Below.refl _ _).alloc (Nat.le_refl _) _) hb.below.size⟩
        go_simp
        (first | done | rfl | (refine ⟨?_, ?_⟩ <;> rfl))
      (try simp only [List.nil_append, List.cons_append])
      refine RelH.app3 (fun _ u W => W.ownsRow wr.heap.size 3 1 u (M + 1) (ints taken ++ [(.int .i64 ((i : Nat)))])) (fun x v W W' h hS => ownsRow_sett h hS (by
        have hl : (ints taken).length = M := by simp [ints]; exact HM.out.symm
        rw [← hl]; simp)) RelH.loc_const (.tmp 37) (.tmp 39) 43 rfl (RelH.gno rfl) ?_ ?_
      · intro a W x hb hd hbase
        simp [RelH.deps, RelH.dep1, Rel.ons, Region.binds] at hd
        obtain ⟨⟨_, ho⟩, ⟨_, hx⟩, _⟩ := hd
        obtain ⟨g, hxv, _, hxk⟩ := hx
        rw [hxv]
        exact append_sett (P := Tryz.prog) wr.heap.size 43 43 3 i1 _ 8 Tryz.underlying43 hi1 jz0 jz1 jz2 rfl _ M (ints taken) (.int .i64 ((i : Nat))) rfl W ho hb.below.size (by unfold maxLen; omega) (by omega) g 1 (hxk.cell 0 _ rfl)
      (try simp only [List.nil_append, List.cons_append])
      iterate 4 (apply RelH.op3 Sett.refl; (focus (first | exact RelH.gno rfl | exact RelH.gyes _ true _ rfl rfl rfl | exact RelH.gyes _ false _ rfl rfl rfl)); (focus (intro a W x hb hd hbase; obtain ⟨hc, hf⟩ := hTC.out W hb; clear hb hf; simp [RelH.deps, RelH.dep1, Rel.ons, Region.binds, Act.eval] at hd; simp only [Act.eval, List.mem_cons, List.not_mem_nil, not_or, and_imp, or_false, Array.getD_eq_getD_getElem?] at hbase; go_simp; (try go_bits); (try rfl); done)); (try simp only [List.nil_append, List.cons_append]))
      refine RelH.callR3 (fun _ u W => ∃ v, u = .tuple #[v, .bool res.isSome] ∧ ∀ l, res = some l → W.ownsRow 0 3 1 v l.length (ints l)) (fun x u W W' h hS => by
        obtain ⟨v, h1, h2⟩ := h
        exact ⟨v, h1, fun l hl => ownsRow_sett0 (h2 l hl) hS (HEXT.out l (by rw [← HRS.out]; exact hl))⟩) RelH.loc_const (fun W W' hS h => Sett.ofGe hS h) (RelH.gno rfl) ?_ ?_
      · intro a W x hb hd hbase
        simp [RelH.deps, RelH.dep1, Rel.ons, Region.binds, Act.eval] at hd
        obtain ⟨⟨_, h0⟩, ⟨_, h1⟩, ⟨_, ho⟩, ⟨_, h9⟩, ⟨_, h11⟩, _⟩ := hd
        obtain ⟨B2, e2, hv2⟩ := own_slice ho
        rw [hv2] at ho
        refine ⟨66, #[.agg #[(.int .i64 (re)), (.int .i64 (le)), (.int .i64 (bl)), (.int .i64 (ma)), (.int .i64 (st)), (.int .i64 (lo)), (.int .i64 (m)), (.int .i64 (k)), (.int .i64 (r))], .slice A N c, .slice B2 (M + 1) e2, (.int .i64 (((i + 1 : Nat) : Int))), (.int .i64 (kk))], ?_, ?_⟩
        · go_simp
          (first | done | rfl | (refine ⟨?_, ?_⟩ <;> rfl))
        · have hrow : W.ownsRow 0 3 1 (.slice B2 (taken ++ [i]).length e2) (taken ++ [i]).length (ints (taken ++ [i])) := by
            rw [HL1.out, ints_append]
            exact ownsRow_base ho (Nat.zero_le _)
          have := IH.out (taken ++ [i]) (i + 1) B2 e2 W (HC.out.below (HBR.out.trans (hb.below.mono hsz))) hrow (by rw [HL1.out]; omega) (fun j hj => by
            rcases List.mem_append.1 hj with hj | hj
            · exact HB.out j hj
            · simp at hj; omega) (by omega)
          rw [HL1.out] at this
          refine this.mono ?_
          rintro e W' ⟨v, h1, h2, h3⟩
          rw [← HRS.out] at h1 h2
          exact ⟨_, h1, ⟨v, rfl, h2⟩, h3⟩
      (try simp only [List.nil_append, List.cons_append])
      refine RelH.opR3 Sett.refl (fun _ u W => ∃ v, u = .tuple #[v, .bool res.isSome] ∧ ∀ l, res = some l → W.ownsRow 0 3 1 v l.length (ints l)) (fun x u W W' h hS => by obtain ⟨v, h1, h2⟩ := h; exact ⟨v, h1, fun l hl => ownsRow_sett0 (h2 l hl) hS (HEXT.out l (by rw [← HRS.out]; exact hl))⟩) RelH.loc_const (RelH.gno rfl) ?_ ?_
      · intro a W x hb hd hbase
        simp [RelH.deps, RelH.dep1, Rel.ons, Region.binds, Act.eval] at hd
        obtain ⟨_, v, h1, h2⟩ := hd
        refine ⟨.tuple #[v, .bool res.isSome], ?_, ⟨v, rfl, h2⟩⟩
        go_simp
        (first | done | rfl | (refine ⟨?_, ?_⟩ <;> rfl))
      (try simp only [List.nil_append, List.cons_append])
      refine RelH.opR3 Sett.refl (fun _ u W => ∀ l, res = some l → W.ownsRow 0 3 1 u l.length (ints l)) (fun x u W W' h hS => fun l hl => ownsRow_sett0 (h l hl) hS (HEXT.out l (by rw [← HRS.out]; exact hl))) RelH.loc_const (RelH.gno rfl) ?_ ?_
      · intro a W x hb hd hbase
        simp [RelH.deps, RelH.dep1, Rel.ons, Region.binds, Act.eval] at hd
        obtain ⟨_, v, h1, h2⟩ := hd
        refine ⟨v, ?_, h2⟩
        go_simp
        (first | done | rfl | (refine ⟨?_, ?_⟩ <;> rfl))
      (try simp only [List.nil_append, List.cons_append])
      refine RelH.opR3 Sett.refl (fun _ u _ => u = .bool res.isSome) (fun _ _ _ _ h _ => h) RelH.loc_const (RelH.gno rfl) ?_ ?_
      · intro a W x hb hd hbase
        simp [RelH.deps, RelH.dep1, Rel.ons, Region.binds, Act.eval] at hd
        obtain ⟨_, v, h1, h2⟩ := hd
        refine ⟨.bool res.isSome, ?_, rfl⟩
        go_simp
        (first | done | rfl | (refine ⟨?_, ?_⟩ <;> rfl))
      (try simp only [List.nil_append, List.cons_append])
      refine RelH.opR3 Sett.refl (fun _ u W => ∀ l, res = some l → W.ownsRow 0 3 1 u l.length (ints l)) (fun x u W W' h hS => fun l hl => ownsRow_sett0 (h l hl) hS (HEXT.out l (by rw [← HRS.out]; exact hl))) RelH.loc_const (RelH.gno rfl) ?_ ?_
      · intro a W x hb hd hbase
        simp [RelH.deps, RelH.dep1, Rel.ons, Region.binds, Act.eval] at hd
        obtain ⟨⟨_, h2⟩, _⟩ := hd
        refine ⟨_, ?_, h2⟩
        go_simp
        (first | done | rfl | (refine ⟨?_, ?_⟩ <;> rfl))
      (try simp only [List.nil_append, List.cons_append])
      refine RelH.done3 ?_
      intro xx WR hR hx
      simp only [RelH.facts, Nat.zero_add, Nat.reduceAdd] at hx
      obtain ⟨e0, e1, _, e3, _, e5, _, _, e8, e9, e10, e11, _, _, _, e15, h16, _⟩ := hx
      simp only [RelH.fill, Nat.zero_add, Nat.reduceAdd, e0, e1, e3, e5, e8, e9, e10, e11, e15]
      simp only [Act.put, List.setIfInBounds_toArray, List.set_cons_zero, List.set_cons_succ]
      clear e0 e1 e3 e5 e8 e9 e10 e11 e15
      have hbR := hR.below
      have K2 := HK.out.of cl hbR
      have HBW := Lib.hid (HBR.out.trans (hbR.mono hsz))
      have HK2 := Lib.hid K2
      have H16 := Lib.hid h16
      clear h16 hR hbR K2 hTC
      rcases res with _ | l
      · simp only [Option.isSome_none]
        go_wp2
        go_roundw
        case rel => exact ⟨i + 1, by omega, by omega, by go_num, fun j h1 h2 => by
          rcases Nat.lt_or_ge j i with h | h
          · exact HNO.out j h1 h
          · obtain rfl : j = i := by omega
            exact HRS.out.symm, HBW.out, HK2.out⟩
        case measure => simp [intOf]; omega
      · simp only [Option.isSome_some]
        go_wp2
        go_ret2
        have hfin := HRES.out l HRS.out.symm
        unfold ChoE
        rw [hfin]
        exact ⟨_, rfl, fun l' hl' => by cases hl'; exact H16.out l rfl, HBW.out⟩
    · have hfin : chosenF P N (kk + 1) taken f = none := by
        show (List.range' f (N - f)).findSome? _ = none
        exact findSome_none (N - f) f (fun j h1 h2 => HNO.out j h1 (by omega))
      have HFIN := Lib.hid hfin
      clear hfin
      go_wp2
      go_ret2
      unfold ChoE
      rw [HFIN.out]
      exact ⟨_, rfl, (fun l' hl' => by cases hl'), HBR.out⟩

theorem chosen_any (re le bl ma st lo m k r : Int) (zs : List (Int × Int × Int)) (h : classErr re le bl ma st lo m k r = 0) (hz : ∀ k, k < zs.length → readErr (zs.getD k (0, 0, 0)).1 (zs.getD k (0, 0, 0)).2.1 (zs.getD k (0, 0, 0)).2.2 = 0) (hn : zs.length ≤ 8) (A : Option Addr) (c : Nat) :
    ∀ (kk : Nat) (taken : List Nat) (f : Nat) (T : Option Addr) (ct : Nat) (w : World), RCells w A zs → w.ownsRow 0 3 1 (.slice T taken.length ct) taken.length (ints taken) → taken.length + kk ≤ 8 → (∀ i ∈ taken, i < zs.length) → f ≤ 8 →
      Calls Tryz.prog 66 #[.agg #[(.int .i64 (re)), (.int .i64 (le)), (.int .i64 (bl)), (.int .i64 (ma)), (.int .i64 (st)), (.int .i64 (lo)), (.int .i64 (m)), (.int .i64 (k)), (.int .i64 (r))], .slice A zs.length c, .slice T taken.length ct, (.int .i64 (f)), (.int .i64 (kk))] w (ChoE (noB re le bl ma st lo m k r zs) zs.length kk taken f w)
  | 0, taken, f, T, ct, w, hC, hT, ht, hb, _ => chosen_zero re le bl ma st lo m k r zs h hz hn taken f A T c ct w hC hT (by omega) hb
  | kk + 1, taken, f, T, ct, w, hC, hT, ht, hb, hf =>
    chosen_succ re le bl ma st lo m k r zs _ zs.length kk A c hn (Lib.hid (fun tk f T ct W a1 a2 a3 a4 a5 => chosen_any re le bl ma st lo m k r zs h hz hn A c kk tk f T ct W a1 a2 a3 a4 a5)) taken f T ct w (Lib.hid hC) (Lib.hid hT) ht (Lib.hid hb) hf
end Go.Proofs.YtpkldjlljoledaaGreatDoor

/- Contract of the reference's Conflict. -/
namespace Go.Proofs.YtpkldjlljoledaaGreatDoor
open Go.RowKit
open Calm (bcell Blk)

/-- the first of the least conflicts. -/
def confR (P : List Nat → Bool) (n : Nat) : Option (List Nat) := (List.range' 1 n).findSome? fun k => chosenF P n k [] 0
def ConE (P : List Nat → Bool) (n : Nat) (W0 : World) : Ending → World → Prop := fun r w' =>
  ∃ v, r = .returned (.tuple #[v, (.int .i64 (if confR P n = none then 7 else 0))]) ∧ (∀ l, confR P n = some l → w'.ownsRow 0 3 1 v l.length (ints l)) ∧ (confR P n = none → v = .slice none 0 0) ∧ Below W0.heap.size W0 w'
set_option maxRecDepth 100000 in
set_option maxHeartbeats 8000000 in
theorem refConflict_abs (re le bl ma st lo m k r : Int) (zs : List (Int × Int × Int)) (P : List Nat → Bool) (N : Nat) (A : Option Addr) (c : Nat) (hN : N ≤ 8)
    (HCH : Hid (∀ (kk : Nat) (W : World), RCells W A zs → kk ≤ 8 → Calls Tryz.prog 66 #[.agg #[(.int .i64 (re)), (.int .i64 (le)), (.int .i64 (bl)), (.int .i64 (ma)), (.int .i64 (st)), (.int .i64 (lo)), (.int .i64 (m)), (.int .i64 (k)), (.int .i64 (r))], .slice A N c, .slice none 0 0, (.int .i64 (0)), (.int .i64 (kk))] W (ChoE P N kk [] 0 W)))
    (w : World) (HC : Hid (RCells w A zs)) :
    Calls Tryz.prog 22 #[.agg #[(.int .i64 (re)), (.int .i64 (le)), (.int .i64 (bl)), (.int .i64 (ma)), (.int .i64 (st)), (.int .i64 (lo)), (.int .i64 (m)), (.int .i64 (k)), (.int .i64 (r))], .slice A N c] w (ConE P N w) := by
  have hB0 := Below.refl w.heap.size w
  have HB1 := Lib.hid (hB0.alloc hB0.size (.cells #[(.int .i64 (re)), (.int .i64 (le)), (.int .i64 (bl)), (.int .i64 (ma)), (.int .i64 (st)), (.int .i64 (lo)), (.int .i64 (m)), (.int .i64 (k)), (.int .i64 (r))] 25))
  have HK1 := Lib.hid (Blk.new w 25 #[(.int .i64 (re)), (.int .i64 (le)), (.int .i64 (bl)), (.int .i64 (ma)), (.int .i64 (st)), (.int .i64 (lo)), (.int .i64 (m)), (.int .i64 (k)), (.int .i64 (r))])
  clear hB0
  go_enter Tryz.func22, Tryz.ntmps22
  go_wp2
  go_loopw [6] (fun x wr => ∃ q : Nat, 1 ≤ q ∧ q ≤ N + 1 ∧ x = (.int .i64 ((q : Nat))) ∧ (∀ j, 1 ≤ j → j < q → chosenF P N j [] 0 = none) ∧ Below w.heap.size w wr ∧ Blk wr w.heap.size #[(.int .i64 (re)), (.int .i64 (le)), (.int .i64 (bl)), (.int .i64 (ma)), (.int .i64 (st)), (.int .i64 (lo)), (.int .i64 (m)), (.int .i64 (k)), (.int .i64 (r))]) (fun x _ => N + 1 - (intOf x).toNat)
  case atStart => exact ⟨1, Nat.le_refl _, by omega, rfl, fun j h1 h2 => by omega, HB1.out, HK1.out⟩
  case round =>
    clear HB1 HK1
    obtain ⟨q, hq1, hq2, rfl, hnone, hB, K⟩ := hrel
    have HNO := Lib.hid hnone
    have HBR := Lib.hid hB
    have HK := Lib.hid K
    have hsz := hB.size
    obtain ⟨c0, c1, c2, c3, c4, c5, c6, c7, c8, cl, -⟩ := K.o9
    clear hnone hB K
    by_cases hlt : q ≤ N
    · have hres : ∀ l, chosenF P N q [] 0 = some l → confR P N = some l := fun l hl => findSome_at N 1 q (fun j h1 h2 => HNO.out j h1 h2) hq1 (by omega) hl
      have HRES := Lib.hid hres
      have hch := HCH.out q
      unfold ChoE at hch
      obtain ⟨res, hrs⟩ : ∃ res, res = chosenF P N q [] 0 := ⟨_, rfl⟩
      rw [← hrs] at hch hres
      have HRS := Lib.hid hrs
      clear hrs HRES
      have HRES := Lib.hid hres
      clear hres
      have HCH2 := Lib.hid hch
      clear hch
      rcases res with _ | l
      · simp only [Option.isSome_none] at HCH2
        go_wp2_with (go_at_call 66; refine (HCH2.out _ (HC.out.below HBR.out) (by omega)).mono ?_; rintro r w2 ⟨v, rfl, hv, hb⟩; refine Hid.out ?_)
        unfold Hid
        have HBW := Lib.hid (HBR.out.trans (hb.mono hsz))
        have HK2 := Lib.hid (HK.out.below hb)
        clear hb hv
        go_wp2
        go_roundw
        case rel => exact ⟨q + 1, by omega, by omega, by go_num, fun j h1 h2 => by
          rcases Nat.lt_or_ge j q with h | h
          · exact HNO.out j h1 h
          · obtain rfl : j = q := by omega
            exact HRS.out.symm, HBW.out, HK2.out⟩
        case measure => simp [intOf]; omega
      · simp only [Option.isSome_some] at HCH2
        go_wp2_with (go_at_call 66; refine (HCH2.out _ (HC.out.below HBR.out) (by omega)).mono ?_; rintro r w2 ⟨v, rfl, hv, hb⟩; refine Hid.out ?_)
        unfold Hid
        have HBW := Lib.hid (HBR.out.trans (hb.mono hsz))
        have HV := Lib.hid (hv l rfl)
        have HFIN := Lib.hid (HRES.out l rfl)
        clear hb hv
        go_wp2
        go_ret2
        unfold ConE
        rw [HFIN.out]
        exact ⟨_, rfl, fun l' hl' => by cases hl'; exact HV.out, (fun h => by cases h), HBW.out⟩
    · have hfin : confR P N = none := findSome_none N 1 (fun j h1 h2 => HNO.out j h1 (by omega))
      have HFIN := Lib.hid hfin
      have hnq : ¬ (q : Int) ≤ N := by omega
      clear hfin
      go_wp2
      go_ret2
      unfold ConE
      rw [HFIN.out]
      exact ⟨_, rfl, (fun l' hl' => by cases hl'), fun _ => rfl, HBR.out⟩
theorem refConflict_any (re le bl ma st lo m k r : Int) (zs : List (Int × Int × Int)) (h : classErr re le bl ma st lo m k r = 0) (hz : ∀ k, k < zs.length → readErr (zs.getD k (0, 0, 0)).1 (zs.getD k (0, 0, 0)).2.1 (zs.getD k (0, 0, 0)).2.2 = 0) (hn : zs.length ≤ 8) (A : Option Addr) (c : Nat) (w : World) (hC : RCells w A zs) :
    Calls Tryz.prog 22 #[.agg #[(.int .i64 (re)), (.int .i64 (le)), (.int .i64 (bl)), (.int .i64 (ma)), (.int .i64 (st)), (.int .i64 (lo)), (.int .i64 (m)), (.int .i64 (k)), (.int .i64 (r))], .slice A zs.length c] w (ConE (noB re le bl ma st lo m k r zs) zs.length w) :=
  refConflict_abs re le bl ma st lo m k r zs _ zs.length A c hn (Lib.hid (fun kk W kC hk => chosen_any re le bl ma st lo m k r zs h hz hn A c kk [] 0 none 0 W kC (World.ownsRow_nil _ _ _ _) (by simpa using hk) (fun i hi => by cases hi) (by omega))) w (Lib.hid hC)
theorem refConflict_long (re le bl ma st lo m k r : Int) (A : Option Addr) (n c : Nat) (w : World) (h : 8 < n) :
    Calls Tryz.prog 22 #[.agg #[(.int .i64 (re)), (.int .i64 (le)), (.int .i64 (bl)), (.int .i64 (ma)), (.int .i64 (st)), (.int .i64 (lo)), (.int .i64 (m)), (.int .i64 (k)), (.int .i64 (r))], .slice A n c] w fun x w' => x = .returned (.tuple #[.slice none 0 0, (.int .i64 (23))]) ∧ Below w.heap.size w w' := by
  go_enter Tryz.func22, Tryz.ntmps22
  go_wp2
  go_ret2
  refine ⟨by first | rfl | (simp; done), ?_⟩
  repeat (first | (with_reducible exact Below.refl _ _) | ((with_reducible refine Below.setCell ?_ ?_ _); rotate_left 1; focus (first | (simp; done) | (simp; omega) | (simp at *; omega))) | ((with_reducible refine Below.alloc ?_ ?_ _); rotate_left 1; focus (first | (simp; done) | (simp; omega) | (simp at *; omega))) | (with_reducible refine Below.drew ?_) | ((with_reducible refine Calm.step (by assumption) ?_ ?_); rotate_left 1; focus (first | (simp; done) | (simp; omega) | (simp at *; omega))))
end Go.Proofs.YtpkldjlljoledaaGreatDoor

/- The least conflict: the program's search over sets and the reference's over lists find the same. No program. -/
namespace Go.Proofs.YtpkldjlljoledaaGreatDoor

/-- strictly rising, from f on, below n. -/
def Inc (n : Nat) : Nat → List Nat → Prop
  | _, [] => True
  | f, i :: l => f ≤ i ∧ i < n ∧ Inc n (i + 1) l
theorem Inc.mono {n : Nat} : ∀ {l : List Nat} {f g : Nat}, f ≤ g → Inc n g l → Inc n f l
  | [], _, _, _, _ => trivial
  | i :: l, f, g, h, ⟨h1, h2, h3⟩ => ⟨Nat.le_trans h h1, h2, h3⟩
theorem Inc.mem {n : Nat} : ∀ {l : List Nat} {f : Nat}, Inc n f l → ∀ i ∈ l, f ≤ i ∧ i < n
  | i :: l, f, ⟨h1, h2, h3⟩, j, hj => by
    rcases List.mem_cons.1 hj with rfl | hj
    · exact ⟨h1, h2⟩
    · have := Inc.mem h3 j hj; exact ⟨by omega, this.2⟩
theorem Inc.len {n : Nat} : ∀ {l : List Nat} {f : Nat}, Inc n f l → l.length ≤ n - f
  | [], _, _ => by simp
  | i :: l, f, ⟨h1, h2, h3⟩ => by have := Inc.len h3; simp; omega
theorem Inc.filter {n : Nat} (p : Nat → Bool) : ∀ (m f : Nat), (∀ j, f ≤ j → j < f + m → p j = true → j < n) → Inc n f ((List.range' f m).filter p)
  | 0, f, _ => by simp [Inc]
  | m + 1, f, h => by
    rw [List.range'_succ, List.filter_cons]
    have ih := Inc.filter p m (f + 1) (fun j h1 h2 => h j (by omega) (by omega))
    split
    · rename_i hp
      exact ⟨Nat.le_refl _, h f (Nat.le_refl _) (by omega) hp, ih⟩
    · exact ih.mono (by omega)
theorem filter_inc : ∀ (m f : Nat) (l : List Nat), Inc (f + m) f l → (List.range' f m).filter (fun j => decide (j ∈ l)) = l
  | 0, f, [], _ => by simp
  | 0, f, i :: l, h => by have := h.1; have := h.2.1; omega
  | m + 1, f, l, h => by
    rw [List.range'_succ, List.filter_cons]
    by_cases hf : f ∈ l
    · cases l with
      | nil => cases hf
      | cons i t =>
        have hi : i = f := by
          rcases List.mem_cons.1 hf with h1 | h1
          · exact h1.symm
          · have := (Inc.mem h.2.2 f h1).1; have := h.1; omega
        subst hi
        rw [if_pos (by simp)]
        congr 1
        have ih := filter_inc m (i + 1) t (by rw [show i + 1 + m = i + (m + 1) by omega]; exact h.2.2)
        refine Eq.trans (List.filter_congr fun j hj => ?_) ih
        have hj1 := (List.mem_range'_1.1 hj).1
        exact decide_eq_decide.2 ⟨fun h1 => (List.mem_cons.1 h1).elim (fun h2 => by omega) id, fun h1 => List.mem_cons_of_mem _ h1⟩
    · rw [if_neg (by simpa using hf)]
      refine filter_inc m (f + 1) l ?_
      rw [show f + 1 + m = f + (m + 1) by omega]
      cases l with
      | nil => trivial
      | cons i t =>
        have : f ≠ i := fun e => hf (by simp [e])
        exact ⟨by have := h.1; omega, h.2.1, h.2.2⟩
/-- the number with these bits. -/
def setN (p : Nat → Bool) : Nat → Nat
  | 0 => 0
  | k + 1 => if p k = true then 2 ^ k + setN p k else setN p k
theorem setN_lt (p : Nat → Bool) : ∀ k, setN p k < 2 ^ k
  | 0 => by simp [setN]
  | k + 1 => by
    have := setN_lt p k
    unfold setN
    rw [Nat.pow_succ]
    split <;> omega
theorem setN_bit (p : Nat → Bool) : ∀ (k j : Nat), j < k → (setN p k).testBit j = p j
  | k + 1, j, h => by
    unfold setN
    by_cases hj : j = k
    · subst hj
      have h0 : (setN p j).testBit j = false := Nat.testBit_lt_two_pow (setN_lt p j)
      split
      · rename_i hp
        rw [Nat.testBit_two_pow_add_eq, h0, hp]; rfl
      · rename_i hp
        rw [h0]; simpa using hp
    · have ih := setN_bit p k j (by omega)
      split
      · rw [Nat.testBit_two_pow_add_gt (by omega), ih]
      · exact ih
theorem bit_iff (s j : Nat) : (s / 2 ^ j % 2 == 1) = s.testBit j := by
  rw [Nat.testBit_eq_decide_div_mod_eq]
  by_cases h : s / 2 ^ j % 2 = 1 <;> simp [h]
theorem memL_filter (s : Nat) : memL s = (List.range' 0 8).filter (fun j => s.testBit j) := by
  unfold memL memN
  rw [List.range_eq_range']
  exact List.filter_congr fun j _ => bit_iff s j
theorem mem_memL {s i : Nat} : i ∈ memL s ↔ i < 8 ∧ s.testBit i = true := by
  rw [memL_filter, List.mem_filter, List.mem_range'_1]
  simp
theorem bit_lt {s n j : Nat} (hs : s < 2 ^ n) (h : s.testBit j = true) : j < n := by
  rcases Nat.lt_or_ge j n with h1 | h1
  · exact h1
  · rw [Nat.testBit_lt_two_pow (Nat.lt_of_lt_of_le hs (Nat.pow_le_pow_right (by decide) h1))] at h
    cases h
theorem memL_inc {s n : Nat} (hs : s < 2 ^ n) : Inc n 0 (memL s) := by
  rw [memL_filter]
  exact Inc.filter _ 8 0 (fun j _ _ h => bit_lt hs h)
theorem memL_set {n : Nat} (hn : n ≤ 8) {l : List Nat} (h : Inc n 0 l) : ∃ s, s < 2 ^ n ∧ memL s = l := by
  refine ⟨setN (fun j => decide (j ∈ l)) n, setN_lt _ _, ?_⟩
  have hlt := setN_lt (fun j => decide (j ∈ l)) n
  rw [memL_filter]
  have h8 : Inc (0 + 8) 0 l := by
    have mono : ∀ {l : List Nat} {f : Nat}, Inc n f l → Inc 8 f l := by
      intro l
      induction l with
      | nil => intro f _; trivial
      | cons i t ih => intro f hh; exact ⟨hh.1, by have := hh.2.1; omega, ih hh.2.2⟩
    exact mono h
  refine Eq.trans (List.filter_congr fun j _ => ?_) (filter_inc 8 0 l h8)
  rcases Nat.lt_or_ge j n with hj | hj
  · exact setN_bit _ n j hj
  · rw [Nat.testBit_lt_two_pow (Nat.lt_of_lt_of_le hlt (Nat.pow_le_pow_right (by decide) hj))]
    symm
    rw [decide_eq_false_iff_not]
    intro hm
    have := (h.mem j hm).2
    omega

theorem mask_bit (p : Int × Int × Int → Bool) (zs : List (Int × Int × Int)) : ∀ (k j : Nat), (maskN p zs k).testBit j = (decide (j < k) && p (zs.getD j (0, 0, 0)))
  | 0, j => by simp [maskN]
  | k + 1, j => by
    have ih := mask_bit p zs k j
    unfold maskN
    by_cases hj : j = k
    · subst hj
      split
      · rename_i hp
        rw [Nat.testBit_or, ih, Nat.testBit_two_pow, hp]; simp
      · rename_i hp
        rw [ih, Bool.eq_false_iff.2 hp]; simp
    · have e : decide (j < k + 1) = decide (j < k) := decide_eq_decide.2 (by omega)
      have e2 : decide (k = j) = false := decide_eq_false (fun h => hj h.symm)
      split
      · rw [Nat.testBit_or, ih, Nat.testBit_two_pow, e2, e, Bool.or_false]
      · rw [ih, e]
theorem sub_iff (a s : Nat) : ((a &&& s) == s) = true ↔ ∀ j, s.testBit j = true → a.testBit j = true := by
  rw [beq_iff_eq]
  constructor
  · intro h j hj
    have := congrArg (fun x => x.testBit j) h
    simp only [Nat.testBit_and] at this
    rw [hj, Bool.and_true] at this
    exact this
  · intro h
    apply Nat.eq_of_testBit_eq
    intro j
    rw [Nat.testBit_and]
    cases hj : s.testBit j
    · simp
    · simp [h j hj]
/-- a set is covered by a driver that explains its readings. -/
theorem cov_expl {re le bl : Int} {zs : List (Int × Int × Int)} {s : Nat} (hn : zs.length ≤ 8) (hs : s < 2 ^ zs.length) (x : Int × Int × Int) : ((maskOf re le bl zs x &&& s) == s) = explB re le bl x.1 x.2.1 x.2.2 (someL zs (memL s)) := by
  rw [Bool.eq_iff_iff, sub_iff]
  unfold explB someL maskOf
  rw [List.all_eq_true]
  constructor
  · intro h r hr
    obtain ⟨i, hi, rfl⟩ := List.mem_map.1 hr
    have h1 := h i (mem_memL.1 hi).2
    rw [mask_bit, Bool.and_eq_true] at h1
    exact h1.2
  · intro h j hj
    have hjn := bit_lt hs hj
    rw [mask_bit, Bool.and_eq_true]
    exact ⟨decide_eq_true hjn, h _ (List.mem_map.2 ⟨j, mem_memL.2 ⟨by omega, hj⟩, rfl⟩)⟩
theorem cov_no {re le bl ma st lo m k r : Int} {zs : List (Int × Int × Int)} {s : Nat} (hn : zs.length ≤ 8) (hs : s < 2 ^ zs.length) : covB re le bl zs (drvs ma st lo m k r) s = false ↔ noB re le bl ma st lo m k r zs (memL s) = true := by
  unfold covB noB regD
  rw [decide_eq_true_eq, List.length_eq_zero_iff, List.filter_eq_nil_iff, Bool.eq_false_iff, ne_eq, List.any_eq_true]
  constructor
  · intro h x hx hh
    exact h ⟨x, hx, by rw [cov_expl hn hs]; exact hh⟩
  · rintro h ⟨x, hx, hh⟩
    rw [cov_expl hn hs] at hh
    exact h x hx hh
end Go.Proofs.YtpkldjlljoledaaGreatDoor

/- The least conflict, both ways: the order of lists, and the two searches joined. No program. -/
namespace Go.Proofs.YtpkldjlljoledaaGreatDoor

theorem lexI_irrefl : ∀ a : List Int, lexI a a = false
  | [] => rfl
  | x :: a => by simp [lexI, lexI_irrefl a]
theorem lexI_trans : ∀ a b c : List Int, a.length = b.length → b.length = c.length → lexI a b = true → lexI b c = true → lexI a c = true
  | [], _, _, _, _, h, _ => by simp [lexI] at h
  | x :: a, [], _, hl, _, _, _ => by simp at hl
  | x :: a, y :: b, [], _, hl, _, _ => by simp at hl
  | x :: a, y :: b, z :: c, h1, h2, h, h' => by
    unfold lexI at h h' ⊢
    by_cases e1 : x = y
    · subst e1
      rw [if_pos rfl] at h
      by_cases e2 : x = z
      · subst e2
        rw [if_pos rfl] at h' ⊢
        exact lexI_trans a b c (by simpa using h1) (by simpa using h2) h h'
      · rw [if_neg e2] at h' ⊢
        exact h'
    · rw [if_neg e1, decide_eq_true_eq] at h
      by_cases e2 : y = z
      · subst e2
        rw [if_neg e1]
        exact decide_eq_true h
      · rw [if_neg e2, decide_eq_true_eq] at h'
        rw [if_neg (by omega)]
        exact decide_eq_true (by omega)
theorem earlierI_irrefl (a : List Int) : earlierI a a = false := by
  unfold earlierI
  rw [if_pos rfl, lexI_irrefl]
theorem earlierI_trans {a b c : List Int} (h : earlierI a b = true) (h' : earlierI b c = true) : earlierI a c = true := by
  unfold earlierI at *
  by_cases e1 : a.length = b.length
  · rw [if_pos e1] at h
    by_cases e2 : b.length = c.length
    · rw [if_pos e2] at h'
      rw [if_pos (e1.trans e2)]
      exact lexI_trans a b c e1 e2 h h'
    · rw [if_neg e2, decide_eq_true_eq] at h'
      rw [if_neg (by omega)]
      exact decide_eq_true (by omega)
  · rw [if_neg e1, decide_eq_true_eq] at h
    by_cases e2 : b.length = c.length
    · rw [if_neg (by omega)]
      exact decide_eq_true (by omega)
    · rw [if_neg e2, decide_eq_true_eq] at h'
      rw [if_neg (by omega)]
      exact decide_eq_true (by omega)

/-- what the search over sets finds: an uncovered set, none earlier. -/
theorem confF_least (re le bl : Int) (zs xs : List (Int × Int × Int)) : ∀ k : Nat,
    (confF re le bl zs xs k = none → ∀ s, 1 ≤ s → s < k → covB re le bl zs xs s = true) ∧
    (∀ b, confF re le bl zs xs k = some b → 1 ≤ b ∧ b < k ∧ covB re le bl zs xs b = false ∧ ∀ s, 1 ≤ s → s < k → covB re le bl zs xs s = false → earlierI (toI (memL s)) (toI (memL b)) = false)
  | 0 => ⟨fun _ s _ h => by omega, fun b h => by cases h⟩
  | s0 + 1 => by
    obtain ⟨ih1, ih2⟩ := confF_least re le bl zs xs s0
    rw [confF_succ]
    by_cases hc : s0 = 0 ∨ covB re le bl zs xs s0 = true
    · rw [if_pos hc]
      refine ⟨fun h s h1 h2 => ?_, fun b h => ?_⟩
      · by_cases e : s = s0
        · subst e; exact hc.resolve_left (by omega)
        · exact ih1 h s h1 (by omega)
      · obtain ⟨q1, q2, q3, q4⟩ := ih2 b h
        refine ⟨q1, by omega, q3, fun s h1 h2 h3 => ?_⟩
        by_cases e : s = s0
        · subst e
          rw [hc.resolve_left (by omega)] at h3
          cases h3
        · exact q4 s h1 (by omega) h3
    · rw [if_neg hc]
      have hs0 : s0 ≠ 0 := fun e => hc (.inl e)
      have hun : covB re le bl zs xs s0 = false := Bool.eq_false_iff.2 fun e => hc (.inr e)
      cases hb : confF re le bl zs xs s0 with
      | none =>
        refine ⟨(fun h => by cases h), fun b h => ?_⟩
        cases h
        refine ⟨by omega, by omega, hun, fun s h1 h2 h3 => ?_⟩
        by_cases e : s = s0
        · subst e; exact earlierI_irrefl _
        · rw [ih1 hb s h1 (by omega)] at h3; cases h3
      | some b0 =>
        obtain ⟨q1, q2, q3, q4⟩ := ih2 b0 hb
        simp only []
        by_cases he : earlierI (toI (memL s0)) (toI (memL b0)) = true
        · rw [if_pos he]
          refine ⟨(fun h => by cases h), fun b h => ?_⟩
          cases h
          refine ⟨by omega, by omega, hun, fun s h1 h2 h3 => ?_⟩
          by_cases e : s = s0
          · subst e; exact earlierI_irrefl _
          · refine Bool.eq_false_iff.2 fun hh => ?_
            have := q4 s h1 (by omega) h3
            rw [earlierI_trans hh he] at this
            cases this
        · rw [if_neg he]
          refine ⟨(fun h => by cases h), fun b h => ?_⟩
          cases h
          refine ⟨q1, by omega, q3, fun s h1 h2 h3 => ?_⟩
          by_cases e : s = s0
          · subst e; exact Bool.eq_false_iff.2 he
          · exact q4 s h1 (by omega) h3

/-- what the search over lists finds: a list for which P holds, none earlier. -/
theorem chosenF_least (P : List Nat → Bool) (n : Nat) : ∀ (k : Nat) (taken : List Nat) (f : Nat),
    (chosenF P n k taken f = none → ∀ l, Inc n f l → l.length = k → P (taken ++ l) = false) ∧
    (∀ r, chosenF P n k taken f = some r → ∃ l, r = taken ++ l ∧ Inc n f l ∧ l.length = k ∧ P r = true ∧ ∀ l', Inc n f l' → l'.length = k → P (taken ++ l') = true → l' = l ∨ lexI (toI l) (toI l') = true)
  | 0, taken, f => by
    unfold chosenF
    refine ⟨fun h l _ hl => ?_, fun r h => ?_⟩
    · obtain rfl := List.eq_nil_of_length_eq_zero hl
      split at h
      · cases h
      · rename_i hp; simpa using hp
    · split at h
      · rename_i hp
        cases h
        exact ⟨[], by simp, trivial, rfl, hp, fun l' _ hl _ => .inl (List.eq_nil_of_length_eq_zero hl)⟩
      · cases h
  | k + 1, taken, f => by
    refine ⟨fun h l hi hl => ?_, fun r h => ?_⟩
    · match l, hi, hl with
      | i :: t, hi, hl =>
        obtain ⟨h1, h2, h3⟩ := hi
        have hn : chosenF P n k (taken ++ [i]) (i + 1) = none := by
          cases hc : chosenF P n k (taken ++ [i]) (i + 1) with
          | none => rfl
          | some q =>
            have hex : ∃ j, f ≤ j ∧ j < f + (n - f) ∧ (chosenF P n k (taken ++ [j]) (j + 1)).isSome := ⟨i, h1, by omega, by rw [hc]; rfl⟩
            have : chosenF P n (k + 1) taken f = (List.range' f (n - f)).findSome? fun i => chosenF P n k (taken ++ [i]) (i + 1) := rfl
            rw [this, List.findSome?_eq_none_iff] at h
            have := h i (List.mem_range'_1.2 ⟨h1, by omega⟩)
            rw [hc] at this
            cases this
        have := (chosenF_least P n k (taken ++ [i]) (i + 1)).1 hn t h3 (by simpa using hl)
        simpa using this
    · have hdef : chosenF P n (k + 1) taken f = (List.range' f (n - f)).findSome? fun i => chosenF P n k (taken ++ [i]) (i + 1) := rfl
      rw [hdef] at h
      obtain ⟨i, h1, h2, h3, h4⟩ := findSome_ex _ _ h
      obtain ⟨t, hr, hinc, hlen, hP, hmin⟩ := (chosenF_least P n k (taken ++ [i]) (i + 1)).2 r h3
      refine ⟨i :: t, by rw [hr]; simp, ⟨h1, by omega, hinc⟩, by simp [hlen], hP, fun l' hi' hl' hP' => ?_⟩
      match l', hi', hl', hP' with
      | j :: t', ⟨g1, g2, g3⟩, hl', hP' =>
        have hP2 : P (taken ++ [j] ++ t') = true := by simpa using hP'
        have hlt : t'.length = k := by simpa using hl'
        rcases Nat.lt_trichotomy j i with hji | hji | hji
        · have := (chosenF_least P n k (taken ++ [j]) (j + 1)).1 (h4 j g1 hji) t' g3 hlt
          rw [this] at hP2; cases hP2
        · subst hji
          rcases hmin t' g3 hlt hP2 with e | e
          · exact .inl (by rw [e])
          · exact .inr (by simpa [toI, lexI] using e)
        · refine .inr ?_
          have hne : ¬ (i : Int) = (j : Int) := by omega
          show lexI ((i : Int) :: toI t) ((j : Int) :: toI t') = true
          unfold lexI
          rw [if_neg hne]
          exact decide_eq_true (Int.ofNat_lt.2 hji)
theorem confR_least {P : List Nat → Bool} {n : Nat} :
    (confR P n = none → ∀ l, Inc n 0 l → 1 ≤ l.length → P l = false) ∧
    (∀ r, confR P n = some r → Inc n 0 r ∧ 1 ≤ r.length ∧ P r = true ∧ ∀ l', Inc n 0 l' → 1 ≤ l'.length → P l' = true → l' = r ∨ earlierI (toI r) (toI l') = true) := by
  unfold confR
  refine ⟨fun h l hi hl => ?_, fun r h => ?_⟩
  · rw [List.findSome?_eq_none_iff] at h
    have hlen := hi.len
    have := (chosenF_least P n l.length [] 0).1 (h l.length (List.mem_range'_1.2 ⟨hl, by omega⟩)) l hi rfl
    simpa using this
  · obtain ⟨k, h1, h2, h3, h4⟩ := findSome_ex _ _ h
    obtain ⟨l, hr, hinc, hlen, hP, hmin⟩ := (chosenF_least P n k [] 0).2 r h3
    obtain rfl : r = l := by simpa using hr
    refine ⟨hinc, by omega, hP, fun l' hi' hl' hP' => ?_⟩
    have e : ∀ l : List Nat, (toI l).length = l.length := toI_len
    unfold earlierI
    rw [e, e]
    rcases Nat.lt_trichotomy l'.length k with hk | hk | hk
    · have := (chosenF_least P n l'.length [] 0).1 (h4 l'.length hl' hk) l' hi' rfl
      rw [List.nil_append] at this
      rw [this] at hP'; cases hP'
    · rcases hmin l' hi' hk (by simpa using hP') with h5 | h5
      · exact .inl h5
      · exact .inr (by rw [if_pos (by omega)]; exact h5)
    · exact .inr (by rw [if_neg (by omega)]; exact decide_eq_true (by omega))
theorem memL_zero : memL 0 = [] := by decide
theorem memL_ne {s : Nat} (h1 : 1 ≤ s) (h2 : s < 256) : 1 ≤ (memL s).length := memL_pos s h2 h1
/-- both find the same. -/
theorem conf_same (re le bl ma st lo m k r : Int) (zs : List (Int × Int × Int)) (hn : zs.length ≤ 8) :
    (confF re le bl zs (drvs ma st lo m k r) (2 ^ zs.length)).map memL = confR (noB re le bl ma st lo m k r zs) zs.length := by
  have h256 : ∀ {s : Nat}, s < 2 ^ zs.length → s < 256 := fun h => Nat.lt_of_lt_of_le h (Nat.pow_le_pow_right (by decide) hn : 2 ^ zs.length ≤ 2 ^ 8)
  obtain ⟨f1, f2⟩ := confF_least re le bl zs (drvs ma st lo m k r) (2 ^ zs.length)
  obtain ⟨r1, r2⟩ := confR_least (P := noB re le bl ma st lo m k r zs) (n := zs.length)
  cases hf : confF re le bl zs (drvs ma st lo m k r) (2 ^ zs.length) with
  | none =>
    cases hr : confR (noB re le bl ma st lo m k r zs) zs.length with
    | none => rfl
    | some l =>
      obtain ⟨q1, q2, q3, _⟩ := r2 l hr
      obtain ⟨s, hs, rfl⟩ := memL_set hn q1
      have hs1 : 1 ≤ s := by
        rcases Nat.eq_zero_or_pos s with rfl | h
        · rw [memL_zero] at q2; simp at q2
        · exact h
      have := f1 hf s hs1 hs
      rw [(cov_no hn hs).2 q3] at this
      cases this
  | some b =>
    obtain ⟨b1, b2, b3, b4⟩ := f2 b hf
    have hPb := (cov_no hn b2).1 b3
    cases hr : confR (noB re le bl ma st lo m k r zs) zs.length with
    | none =>
      have := r1 hr (memL b) (memL_inc b2) (memL_ne b1 (h256 b2))
      rw [this] at hPb; cases hPb
    | some l =>
      obtain ⟨q1, q2, q3, q4⟩ := r2 l hr
      rcases q4 (memL b) (memL_inc b2) (memL_ne b1 (h256 b2)) hPb with e | e
      · simp [e]
      · obtain ⟨s, hs, rfl⟩ := memL_set hn q1
        have hs1 : 1 ≤ s := by
          rcases Nat.eq_zero_or_pos s with rfl | h
          · rw [memL_zero] at q2; simp at q2
          · exact h
        have := b4 s hs1 hs ((cov_no hn hs).2 q3)
        rw [e] at this
        cases this
end Go.Proofs.YtpkldjlljoledaaGreatDoor
