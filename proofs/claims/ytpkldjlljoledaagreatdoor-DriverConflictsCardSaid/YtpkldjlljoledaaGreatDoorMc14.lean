/- Part 14 of the texts of the claim: RelG, Turn, Grw, RelH. -/
import Derived.Test.YtpkldjlljoledaaGreatDoorMc12
import Derived.Maps.AppendAt

/- Regions whose order is open, the world turning along any relation S (reflexive, transitive): stores in the head. Printed by relg.py. -/
namespace Go.Proofs.YtpkldjlljoledaaGreatDoor.RelG
open Go.RowKit
open Rel (Know dst puts upd puts_agree puts_put Apart apart_of puts_new put_size puts_size puts_other eval_put_same puts_here wanted_of GOK countP_upd left Ln okB sizeB all_listed listed_Ln some_ready fill fill_puts Ctx dep1 deps deps_of facts facts_of ons GOK3)

/-- .. and stays known along S. -/
def Stable (S : World → World → Prop) (R : Know) : Prop := ∀ v W W', R v W → S W W' → R v W'

section
variable {P : Program} {ops : Array Oper} {S : World → World → Prop}

/-- What an operation of the head must show: wherever it comes up. -/
def Ob (S : World → World → Prop) (P : Program) (ops : Array Oper) (n : Nat) (w0 : World) (a0 : Act) (Γ : List Know) (o : Oper) (R : Know) : Prop :=
  ∀ (a : Act) (W : World), S w0 W → a.tmps.size = a0.tmps.size →
    (∀ e ∈ o.after, Region.binds .any e = true → ∀ t, dst ops e.on = some t → ∀ K, Γ[e.on]? = some K → K (a.eval (.tmp t)) W) →
    (∀ t, (∀ j, j < n → dst ops j ≠ some t) → a.eval (.tmp t) = a0.eval (.tmp t)) →
    ∀ (K : Act → World → Prop) (Q : Exit → Act → World → Prop), (∀ v W', R v W' → S W W' → K (a.put o.dst v) W') → o.wp P a W K Q


/-- The walk in the order of the text: at each operation something that stays known is chosen. -/
def walk (S : World → World → Prop) (P : Program) (ops : Array Oper) (n : Nat) (w0 : World) (a0 : Act) (T : List Know → Prop) : List Know → List Oper → Prop
  | Γ, [] => T Γ
  | Γ, o :: l => ∃ R, Stable S R ∧ GOK ops Γ o ∧ (dst ops Γ.length = o.dst → Ob S P ops n w0 a0 Γ o R) ∧ walk S P ops n w0 a0 T (Γ ++ [R]) l


theorem walk_all {n : Nat} {w0 : World} {a0 : Act} {T : List Know → Prop} : ∀ (l : List Oper) (Γ : List Know), walk S P ops n w0 a0 T Γ l →
    ∃ Δ : List Know, Δ.length = l.length ∧ T (Γ ++ Δ) ∧ ∀ k o, l[k]? = some o → ∃ R, Δ[k]? = some R ∧ Stable S R ∧ GOK ops (Γ ++ Δ.take k) o ∧ (dst ops (Γ.length + k) = o.dst → Ob S P ops n w0 a0 (Γ ++ Δ.take k) o R)
  | [], Γ, h => ⟨[], rfl, by simpa [walk] using h, fun k o hk => by simp at hk⟩
  | o :: l, Γ, h => by
    obtain ⟨R, hs, hg, hob, hw⟩ := h
    obtain ⟨Δ, hl, hT, hall⟩ := walk_all l _ hw
    refine ⟨R :: Δ, by simp [hl], by simpa using hT, fun k o' hk => ?_⟩
    cases k with
    | zero =>
      obtain rfl : o = o' := by simpa using hk
      exact ⟨R, rfl, hs, by simpa using hg, by simpa using hob⟩
    | succ k =>
      obtain ⟨R', h1, h2, h3, h4⟩ := hall k o' (by simpa using hk)
      refine ⟨R', by simpa using h1, h2, by simpa using h3, fun hd => ?_⟩
      have := h4 (by rw [← hd]; congr 1; simp; omega)
      simpa using this

theorem Ob.mono {n : Nat} {w0 : World} {a0 : Act} {Γ Δ : List Know} {o : Oper} {R : Know} (h : Ob S P ops n w0 a0 Γ o R) (hsub : ∀ e ∈ o.after, ∀ K, Γ[e.on]? = some K → Δ[e.on]? = some K) : Ob S P ops n w0 a0 Δ o R :=
  fun a W hb hz hd hbase K Q hK => h a W hb hz (fun e he hbd t ht K' hK' => hd e he hbd t ht K' (hsub e he K' hK')) hbase K Q hK

/-- What holds while the head is on its way. -/
structure Inv (S : World → World → Prop) (ops : Array Oper) (n : Nat) (w0 : World) (a0 : Act) (Γ : List Know) (listed : Array Bool) (a : Act) (W : World) : Prop where
  below : S w0 W
  vals : ∃ x : Nat → Value, a = puts ops x (fun j => listed.getD j false) (List.range n) a0 ∧ ∀ j, j < n → listed.getD j false = true → ∀ K, Γ[j]? = some K → K (x j) W


theorem go (ht' : ∀ a b c, S a b → S b c → S a c) {n : Nat} {Q : Exit → Act → World → Prop} {w0 : World} {a0 : Act} {Γ : List Know} (hok : okB ops n = true) (hsz : sizeB ops n a0.tmps.size = true)
    (hΓ : ∀ k, k < n → ∃ o R, ops[k]? = some o ∧ Γ[k]? = some R ∧ Stable S R ∧ GOK ops Γ o ∧ Ob S P ops n w0 a0 Γ o R)
    (hend : ∀ (x : Nat → Value) (W : World), S w0 W → (∀ j, j < n → ∀ K, Γ[j]? = some K → K (x j) W) → wpAny P .any ops Q (ops.size - n) (Ln n ops.size) (puts ops x (fun _ => true) (List.range n) a0) W) :
    ∀ (f : Nat) (listed : Array Bool) (a : Act) (W : World), HeadInv .any ops n listed → left n listed = f → Inv S ops n w0 a0 Γ listed a W → wpAny P .any ops Q (f + (ops.size - n)) listed a W := by
  simp only [okB, Bool.and_eq_true, decide_eq_true_eq] at hok
  obtain ⟨⟨⟨⟨⟨hn, hs⟩, hc⟩, _⟩, hap⟩, hback⟩ := hok
  have hap := apart_of hap
  intro f
  induction f with
  | zero =>
    intro listed a W inv hl hI
    obtain ⟨hb, x, rfl, hx⟩ := hI
    have hall := all_listed hl
    rw [Nat.zero_add]
    rw [puts_agree (p' := fun _ => true) (x' := x) (List.range n) a0 (fun j hj => ⟨hall j (List.mem_range.1 hj), fun _ => rfl⟩), listed_Ln inv hl (by omega)]
    exact hend x W hb (fun j hj K hK => hx j hj (hall j hj) K hK)
  | succ f ih =>
    intro listed a W inv hl hI
    have hex : ∃ k, k < n ∧ listed.getD k true = false := by
      apply Classical.byContradiction
      intro hno
      have : left n listed = 0 := List.countP_eq_zero.2 (fun j hj => by
        have hj := List.mem_range.1 hj
        have hjs : j < listed.size := by rw [inv.size]; omega
        cases h : listed.getD j false with
        | true => simp
        | false => exact absurd ⟨j, hj, getD_in hjs h⟩ hno)
      omega
    obtain ⟨k, hk, hun⟩ := hex
    rw [show f + 1 + (ops.size - n) = (f + (ops.size - n)) + 1 by omega]
    refine ⟨fun h0 => ?_, fun i hi => ?_⟩
    · obtain ⟨i, hi⟩ := some_ready inv hback hn (k + 1) k (by omega) hk hun
      rw [h0] at hi
      cases hi
    have hin : i < n := by
      rcases Nat.lt_or_ge i n with h | h
      · exact h
      · exact absurd hi (tail_waits hs hc hn inv _ k rfl hk hun i h)
    obtain ⟨hiun, oi, hoi, hdeps⟩ := mem_ready.1 hi
    obtain ⟨o, R, ho, hR, hst, hg, hob⟩ := hΓ i hin
    obtain rfl : oi = o := Option.some.inj (hoi.symm.trans ho)
    obtain ⟨hb, x, rfl, hx⟩ := hI
    have hdi : dst ops i = oi.dst := by simp [dst, ho]
    have his : i < listed.size := by rw [inv.size]; omega
    have hif : listed.getD i false = false := getD_both hiun
    have hszt : ∀ j t, j < n → dst ops j = some t → t < a0.tmps.size := fun j t hj hd => by
      have := List.all_eq_true.1 hsz j (List.mem_range.2 hj)
      simpa [hd] using this
    have back : ∀ e ∈ oi.after, Region.binds .any e = true → e.on < i := fun e he hbd => by
      have h1 := List.all_eq_true.1 hback i (List.mem_range.2 (by omega))
      simp only [ho] at h1
      simpa [hbd] using Array.all_eq_true'.1 h1 e he
    unfold wpOp
    simp only [ho]
    have hwant : Region.wanted oi (yielded ops (puts ops x (fun j => listed.getD j false) (List.range n) a0).tmps) = true := by
      rcases hg with hg | ⟨g, b, t, hg, ⟨e, he, hbd, rfl⟩, hd, hK⟩
      · simp [Region.wanted, hg]
      · have hel := hdeps e he hbd
        have hen : e.on < n := by have := back e he hbd; omega
        have h1 := puts_here (x := x) (p := fun j => listed.getD j false) hap hen hel hd (List.range n) a0 (List.nodup_range) (List.mem_range.2 hen) (fun j hj => List.mem_range.1 hj) (hszt _ _ hen hd)
        have h2 : x e.on = .bool b := hx e.on hen hel _ hK
        have h3 : t < (puts ops x (fun j => listed.getD j false) (List.range n) a0).tmps.size := by rw [puts_size]; exact hszt _ _ hen hd
        rw [h2] at h1
        exact wanted_of hg hd h1 h3
    rw [if_pos hwant]
    refine .inl (hob _ W hb (puts_size _ _) ?_ ?_ _ _ ?_)
    · intro e he hbd t ht K hK
      have hel := hdeps e he hbd
      have hen : e.on < n := by have := back e he hbd; omega
      rw [puts_here hap hen hel ht (List.range n) a0 (List.nodup_range) (List.mem_range.2 hen) (fun j hj => List.mem_range.1 hj) (hszt _ _ hen ht)]
      exact hx e.on hen hel K hK
    · intro t ht
      exact puts_other _ _ (fun j hj => ht j (List.mem_range.1 hj))
    · intro v W' hv hb'
      have hget : ∀ j, (listed.setIfInBounds i true).getD j false = upd (fun j => listed.getD j false) i true j := by
        intro j
        by_cases hji : j = i
        · subst hji
          simp [upd, his]
        · rw [getD_set_ne false (Ne.symm hji)]
          simp [upd, hji]
      refine ih _ _ W' (inv.set hi hin) ?_ ⟨ht' _ _ _ hb hb', upd x i v, ?_, ?_⟩
      · have h1 := countP_upd (i := i) (p := fun j => !listed.getD j false) (by simp [hif]) (List.range n) List.nodup_range (List.mem_range.2 hin)
        have h2 : left n (listed.setIfInBounds i true) = (List.range n).countP (upd (fun j => !listed.getD j false) i false) := by
          unfold left
          congr 1
          funext j
          rw [hget j]
          by_cases hji : j = i <;> simp [upd, hji]
        unfold left at hl
        omega
      · rw [← hdi, puts_new hap hin hif (List.range n) a0 List.nodup_range (List.mem_range.2 hin) (fun j hj => List.mem_range.1 hj)]
        exact puts_agree _ _ (fun j _ => ⟨(hget j).symm, fun _ => rfl⟩)
      · intro j hj hlj K hK
        rw [hget j] at hlj
        by_cases hji : j = i
        · subst hji
          obtain rfl : R = K := Option.some.inj (hR.symm.trans hK)
          simpa [upd] using hv
        · have e1 : upd x i v j = x j := by simp [upd, hji]
          have e2 : listed.getD j false = true := by simpa [upd, hji] using hlj
          rw [e1]
          obtain ⟨_, R', _, hR', hst', _⟩ := hΓ j hj
          obtain rfl : R' = K := Option.some.inj (hR'.symm.trans hK)
          exact hst' _ _ _ (hx j hj e2 _ hK) hb'

/-- The frame with all values of the head. -/
def fill : List Oper → Nat → (Nat → Value) → Act → Act
  | [], _, _, a => a
  | o :: l, k, x, a => fill l (k + 1) x (a.put o.dst (x k))
theorem fill_puts {x : Nat → Value} : ∀ (l : List Oper) (k : Nat) (a : Act), (∀ j, j < l.length → l[j]? = ops[k + j]?) → fill l k x a = puts ops x (fun _ => true) (List.range' k l.length) a
  | [], _, _, _ => rfl
  | o :: l, k, a, h => by
    have h0 : ops[k]? = some o := by simpa using (h 0 (by simp)).symm
    have hd : dst ops k = o.dst := by simp [dst, h0]
    simp only [fill, List.length_cons, List.range'_succ, puts, if_true, hd]
    exact fill_puts l (k + 1) _ (fun j hj => by have := h (j + 1) (by simp; omega); simpa [Nat.add_assoc, Nat.add_comm 1 j] using this)

/-- ████ The region. -/
theorem region (ht' : ∀ a b c, S a b → S b c → S a c) (hdr : ∀ W, S W { W with drawn := W.drawn + 1 }) {id : Nat} {Q : Exit → Act → World → Prop} {a : Act} {w : World} {l : List Oper} (n : Nat) (hm : P.follows .mixedOrders = true) (hok : okB l.toArray n = true) (hsz : sizeB l.toArray n a.tmps.size = true)
    (h : walk S P l.toArray n w a (fun (Γ : List Know) => ∀ (x : Nat → Value) (W : World), S w W → (∀ (j : Nat) (K : Know), Γ[j]? = some K → K (x j) W) → wpList P l.toArray Q (l.drop n) (fill (l.take n) 0 x a) W) [] (l.take n)) :
    (Code.region id l.toArray true).wp P Q a w := by
  have hok' := hok
  simp only [okB, Bool.and_eq_true, decide_eq_true_eq] at hok'
  obtain ⟨⟨⟨⟨⟨hn, _⟩, _⟩, hseq⟩, _⟩, hback⟩ := hok'
  have hn' : n < l.length := by simpa using hn
  have htl : (l.take n).length = n := by simp; omega
  obtain ⟨Δ, hlen, hT, hall⟩ := walk_all _ _ h
  rw [List.nil_append] at hT
  rw [htl] at hlen
  have hget : ∀ k, k < n → (l.take n)[k]? = l.toArray[k]? := fun k hk => by simp [List.getElem?_take, hk]
  have hΓ : ∀ k, k < n → ∃ o R, l.toArray[k]? = some o ∧ Δ[k]? = some R ∧ Stable S R ∧ GOK l.toArray Δ o ∧ Ob S P l.toArray n w a Δ o R := by
    intro k hk
    obtain ⟨o, ho⟩ : ∃ o, l.toArray[k]? = some o := ⟨_, Array.getElem?_eq_getElem (by simp; omega)⟩
    obtain ⟨R, h1, h2, h3, h4⟩ := hall k o (by rw [hget k hk, ho])
    rw [List.nil_append] at h3
    refine ⟨o, R, ho, h1, h2, h3.mono (fun g K hK => by
      rw [List.getElem?_take] at hK
      split at hK
      · exact hK
      · cases hK), (h4 (by simp only [List.length_nil, Nat.zero_add]; simp [dst, ho])).mono fun e he K hK => ?_⟩
    rw [List.nil_append] at hK
    rw [List.getElem?_take] at hK
    split at hK
    · exact hK
    · cases hK
  have inv0 : HeadInv .any l.toArray n (Array.replicate l.toArray.size false) :=
    ⟨by simp, fun j oj _ hl => (by rw [getD_replicate_false] at hl; cases hl), fun t _ ht => getD_in (by simpa using ht) (getD_replicate_false _ _)⟩
  have hleft : left n (Array.replicate l.toArray.size false) = n := by
    unfold left
    rw [List.countP_eq_length.2 (fun j _ => by rw [getD_replicate_false]; rfl), List.length_range]
  have hputs : ∀ x, puts l.toArray x (fun _ => true) (List.range n) a = fill (l.take n) 0 x a := fun x => by
    rw [fill_puts (ops := l.toArray) (l.take n) 0 a (fun j hj => by rw [htl] at hj; rw [hget j hj, Nat.zero_add]), htl, List.range_eq_range']
  have H := go ht' (P := P) (Q := Q) (w0 := w) (a0 := a) hok hsz hΓ (fun x W hb hx => by
    have hdl : (l.drop n).length = l.toArray.size - n := by simp
    have := wpAny_of_seq (md := .any) (Q' := Q) (ops := l.toArray) (P := P) (l.drop n) n (Ln n l.toArray.size) (fill (l.take n) 0 x a) W (fun j => by simp [List.getElem?_drop]) (by rw [hdl]; exact hseq)
      (hT x W hb (fun j K hK => hx j (by
        have := (List.getElem?_eq_some_iff.1 hK).1
        omega) K hK))
    rw [hputs x, ← hdl]
    exact this) n _ a { w with drawn := w.drawn + 1 } inv0 hleft ⟨hdr w, fun _ => undef, by
      rw [puts_agree (p' := fun _ => false) (x' := fun _ => undef) (List.range n) a (fun j _ => ⟨getD_replicate_false _ _, fun _ => rfl⟩)]
      exact (show ∀ (L : List Nat) (b : Act), b = puts l.toArray (fun _ => undef) (fun _ => false) L b from fun L => by
        induction L with
        | nil => intro b; rfl
        | cons j L ih => intro b; unfold puts; simpa using ih b) _ _, fun j _ hl => by rw [getD_replicate_false] at hl; cases hl⟩
  refine wp_region_any hm ?_
  have e : n + (l.toArray.size - n) = l.toArray.size := by omega
  rw [e] at H
  exact H

end

def Ob3 (S : World → World → Prop) (P : Program) (DS : List Tmp) (w0 : World) (a0 : Act) (Γ : Ctx) (o : Oper) (R : Know) : Prop :=
  ∀ (a : Act) (W : World), S w0 W → deps Γ a W (ons o) → (∀ t, t ∉ DS → a.eval (.tmp t) = a0.eval (.tmp t)) →
    ∀ (K : Act → World → Prop) (Q : Exit → Act → World → Prop), (∀ v W', R v W' → S W W' → K (a.put o.dst v) W') → o.wp P a W K Q

def walk3 (S : World → World → Prop) (P : Program) (DS : List Tmp) (w0 : World) (a0 : Act) (T : Ctx → Prop) : Ctx → List Oper → Prop
  | Γ, [] => T Γ
  | Γ, o :: l => ∃ R, Stable S R ∧ GOK3 Γ o ∧ Ob3 S P DS w0 a0 Γ o R ∧ walk3 S P DS w0 a0 T (Γ ++ [(o.dst, R)]) l
theorem walk_of_walk3 {S : World → World → Prop} {P : Program} {ops : Array Oper} {n : Nat} {DS : List Tmp} {w0 : World} {a0 : Act} {T : Ctx → Prop} {T' : List Know → Prop} (hDS : ∀ t, t ∉ DS → ∀ j, j < n → dst ops j ≠ some t)
    (hT : ∀ Γ, T Γ → T' (Γ.map (·.2))) :
    ∀ (l : List Oper) (Γ : Ctx), (∀ j, j < l.length → l[j]? = ops[Γ.length + j]?) → (∀ j d R, Γ[j]? = some (d, R) → dst ops j = d) → walk3 S P DS w0 a0 T Γ l → walk S P ops n w0 a0 T' (Γ.map (·.2)) l
  | [], Γ, _, _, h => hT Γ h
  | o :: l, Γ, hl, hΓ, h => by
    obtain ⟨R, hs, hg, hob, hw⟩ := h
    have h0 : ops[Γ.length]? = some o := by simpa using (hl 0 (by simp)).symm
    have hg' : GOK ops (Γ.map (·.2)) o := by
      rcases hg with hg | ⟨g, b, t, hg, hin, hΓg⟩
      · exact .inl hg
      · obtain ⟨e, he, rfl⟩ := List.mem_map.1 hin
        obtain ⟨he1, he2⟩ := List.mem_filter.1 he
        exact .inr ⟨e.on, b, t, hg, ⟨e, by simpa using he1, he2, rfl⟩, hΓ _ _ _ hΓg, by simp [hΓg]⟩
    refine ⟨R, hs, hg', fun _ => ?_, ?_⟩
    · intro a W hb hz hd hbase K Q hK
      refine hob a W hb (deps_of _ fun j hj => ?_) (fun t ht => hbase t (fun j hj => hDS t ht j hj)) K Q hK
      obtain ⟨e, he, rfl⟩ := List.mem_map.1 hj
      obtain ⟨he1, he2⟩ := List.mem_filter.1 he
      have he' : e ∈ o.after := by simpa using he1
      cases hc : Γ[e.on]? with
      | none => trivial
      | some c =>
        obtain ⟨d, K'⟩ := c
        cases d with
        | none => trivial
        | some t => exact hd e he' he2 t (hΓ _ _ _ hc) K' (by simp [hc])
    · have := walk_of_walk3 hDS hT l (Γ ++ [(o.dst, R)]) (fun j hj => by
        have := hl (j + 1) (by simp; omega)
        simpa [Nat.add_assoc, Nat.add_comm 1 j] using this) (fun j d R' hj => by
        rcases Nat.lt_or_ge j Γ.length with h | h
        · rw [List.getElem?_append_left h] at hj
          exact hΓ j d R' hj
        · have hjl : j < (Γ ++ [(o.dst, R)]).length := (List.getElem?_eq_some_iff.1 hj).1
          obtain rfl : j = Γ.length := by simp at hjl; omega
          simp at hj
          rw [← hj.1]
          simp [dst, h0]) hw
      simpa using this

theorem region3 {S : World → World → Prop} (ht' : ∀ a b c, S a b → S b c → S a c) (hdr : ∀ W, S W { W with drawn := W.drawn + 1 }) {P : Program} {id : Nat} {Q : Exit → Act → World → Prop} {a : Act} {w : World} {l : List Oper} (n : Nat) (hm : P.follows .mixedOrders = true) (hok : okB l.toArray n = true) (hsz : sizeB l.toArray n a.tmps.size = true)
    (h : walk3 S P ((l.take n).filterMap (·.dst)) w a (fun Γ => ∀ (x : Nat → Value) (W : World), S w W → facts x W 0 Γ → wpList P l.toArray Q (l.drop n) (fill (l.take n) 0 x a) W) [] (l.take n)) :
    (Code.region id l.toArray true).wp P Q a w := by
  have hn' : n < l.length := by
    simp only [okB, Bool.and_eq_true, decide_eq_true_eq] at hok
    simpa using hok.1.1.1.1.1
  have htl : (l.take n).length = n := by simp; omega
  refine region ht' hdr n hm hok hsz (walk_of_walk3 (n := n) (fun t ht j hj hd => ht ?_) (fun Γ hT x W hb hx => hT x W hb (facts_of Γ 0 (fun j K hj => by rw [Nat.zero_add]; exact hx j K hj))) (l.take n) [] (fun j hj => by
      rw [htl] at hj
      simp [List.getElem?_take, hj]) (fun j d R hj => by simp at hj) h)
  have hlj : j < l.length := by omega
  simp [dst, hlj] at hd
  exact List.mem_filterMap.2 ⟨l[j], List.mem_iff_getElem.2 ⟨j, by omega, by simp⟩, hd⟩
section
variable {S : World → World → Prop} {P : Program} {DS : List Tmp} {w0 : World} {a0 : Act} {T : Ctx → Prop} {Γ : Ctx} {o : Oper} {rest : List Oper}

theorem op3 (hr : ∀ W, S W W) (v : Value) (hg : GOK3 Γ o) (h : ∀ (a : Act) (W : World), S w0 W → deps Γ a W (ons o) → (∀ t, t ∉ DS → a.eval (.tmp t) = a0.eval (.tmp t)) → (execOp a.eval o).run P W = .ok (.value v) W)
    (hn : walk3 S P DS w0 a0 T (Γ ++ [(o.dst, fun u _ => u = v)]) rest) : walk3 S P DS w0 a0 T Γ (o :: rest) :=
  ⟨_, fun _ _ _ h _ => h, hg, fun a W hb hd hbase K Q hK => by
    unfold Oper.wp
    rw [h a W hb hd hbase]
    exact hK v W rfl (hr W), hn⟩
/-- An operation that stores: what it does to the world is along S. -/
theorem store3 (R : World → Prop) (hs : ∀ W W', R W → S W W' → R W') (hg : GOK3 Γ o)
    (h : ∀ (a : Act) (W : World), S w0 W → deps Γ a W (ons o) → (∀ t, t ∉ DS → a.eval (.tmp t) = a0.eval (.tmp t)) → ∃ W', (execOp a.eval o).run P W = .ok .skip W' ∧ R W' ∧ S W W')
    (hn : walk3 S P DS w0 a0 T (Γ ++ [(o.dst, fun _ W => R W)]) rest) : walk3 S P DS w0 a0 T Γ (o :: rest) :=
  ⟨fun _ W => R W, fun _ W W' h hS => hs W W' h hS, hg, fun a W hb hd hbase K Q hK => by
    obtain ⟨W', hrun, hR, hS⟩ := h a W hb hd hbase
    unfold Oper.wp
    rw [hrun]
    exact hK undef W' hR hS, hn⟩
theorem done3 (h : T Γ) : walk3 S P DS w0 a0 T Γ [] := h
end
end Go.Proofs.YtpkldjlljoledaaGreatDoor.RelG

/- Worlds that turn in one block alone, each cell of it to what it will be; for stores in the head of a drawn region. -/
namespace Go.Proofs.YtpkldjlljoledaaGreatDoor
open Go.RowKit
open Calm (bcell Blk)
/-- below B all but block g is as it was; each cell of block g is as it was, or as it will be. -/
structure Turns (g : Nat) (new : Array Value) (B : Nat) (W W' : World) : Prop where
  os : W'.os = W.os
  tape : W'.tape = W.tape
  output : W'.output = W.output
  size : W.heap.size ≤ W'.heap.size
  block : ∀ k, k < B → k ≠ g → W'.heap[k]? = W.heap[k]?
  cell : ∀ i, W'.cell? ⟨g, i, none⟩ = W.cell? ⟨g, i, none⟩ ∨ W'.cell? ⟨g, i, none⟩ = new[i]? ∧ ∃ u, W.cell? ⟨g, i, none⟩ = some u
  frozen : ∀ i, W'.frozen? ⟨g, i, none⟩ = W.frozen? ⟨g, i, none⟩
theorem Turns.refl (g : Nat) (new : Array Value) (B : Nat) (W : World) : Turns g new B W W := ⟨rfl, rfl, rfl, Nat.le_refl _, fun _ _ _ => rfl, fun _ => .inl rfl, fun _ => rfl⟩
theorem Turns.trans {g : Nat} {new : Array Value} {B : Nat} (a b c : World) (h : Turns g new B a b) (h' : Turns g new B b c) : Turns g new B a c := by
  refine ⟨h'.os.trans h.os, h'.tape.trans h.tape, h'.output.trans h.output, Nat.le_trans h.size h'.size, fun k hk hg => (h'.block k hk hg).trans (h.block k hk hg), fun i => ?_, fun i => (h'.frozen i).trans (h.frozen i)⟩
  rcases h'.cell i with e' | ⟨e', u', hu'⟩
  · rcases h.cell i with e | ⟨e, hu⟩
    · exact .inl (e'.trans e)
    · exact .inr ⟨e'.trans e, hu⟩
  · rcases h.cell i with e | ⟨_, hu⟩
    · exact .inr ⟨e', u', e ▸ hu'⟩
    · exact .inr ⟨e', hu⟩
theorem Turns.drawn {g : Nat} {new : Array Value} {B : Nat} (W : World) : Turns g new B W { W with drawn := W.drawn + 1 } := ⟨rfl, rfl, rfl, Nat.le_refl _, fun _ _ _ => rfl, fun _ => .inl rfl, fun _ => rfl⟩
theorem Turns.of {g : Nat} {new : Array Value} {B : Nat} {W W' : World} (h : Below W.heap.size W W') (hg : g < W.heap.size) (hB : B ≤ W.heap.size) : Turns g new B W W' :=
  ⟨h.os, h.tape, h.output, h.size, fun k hk _ => h.block k (by omega), fun i => .inl (h.cell (p := ⟨g, i, none⟩) hg), fun i => h.frozen (p := ⟨g, i, none⟩) hg⟩
theorem Turns.below {g : Nat} {new : Array Value} {B B' : Nat} {W W' : World} (h : Turns g new B W W') (h1 : B' ≤ g) (h2 : B' ≤ B) : Below B' W W' :=
  ⟨h.os, h.tape, h.output, h.size, fun k hk => h.block k (by omega) (by omega)⟩
theorem Turns.has {g : Nat} {new cs : Array Value} {B : Nat} {W W' : World} (h : Turns g new B W W') (hB : Blk W g cs) (hsz : new.size = cs.size) {i : Nat} (hi : i < cs.size) : ∃ u, W'.cell? ⟨g, i, none⟩ = some u := by
  rcases h.cell i with e | ⟨e, _⟩
  · exact ⟨cs[i], by rw [e, hB.c i]; simp [hi]⟩
  · exact ⟨new[i]'(by omega), by rw [e]; simp [hsz, hi]⟩
theorem Turns.put {g : Nat} {new : Array Value} {B : Nat} {W : World} {i : Nat} {u v : Value} (hu : W.cell? ⟨g, i, none⟩ = some u) (hv : new[i]? = some v) : Turns g new B W (W.setCell ⟨g, i, none⟩ v) := by
  refine ⟨rfl, rfl, rfl, by simp [World.setCell], fun k _ hk => Below.heap_setCell _ _ _ _ hk, fun j => ?_, fun j => World.frozen?_setCell ..⟩
  by_cases hij : i = j
  · subst hij
    exact .inr ⟨(World.cell?_setCell_same W _ v hu).trans hv.symm, u, hu⟩
  · exact .inl (World.cell?_setCell_other W ⟨g, i, none⟩ ⟨g, j, none⟩ v (by intro e; cases e; exact hij rfl))
theorem Turns.blk {g : Nat} {new cs : Array Value} {B : Nat} {W W' : World} (h : Turns g new B W W') (hB : Blk W g cs) (hn : ∀ i, cs[i]? = new[i]? ∨ W'.cell? ⟨g, i, none⟩ = new[i]?) : Blk W' g new := by
  refine ⟨Nat.lt_of_lt_of_le hB.lt h.size, fun i => ?_, fun i => (h.frozen i).trans (hB.f i)⟩
  rcases hn i with e | e
  · rcases h.cell i with e' | ⟨e', _⟩
    · rw [e', hB.c i, e]
    · exact e'
  · exact e
theorem Turns.far {g g' : Nat} {new cs : Array Value} {B : Nat} {W W' : World} (h : Turns g new B W W') (hK : Blk W g' cs) (h1 : g' < B) (h2 : g' ≠ g) : Blk W' g' cs :=
  ⟨Nat.lt_of_lt_of_le hK.lt h.size, fun i => (World.cell?_of_block (w := W) (a := ⟨g', i, none⟩) (h.block g' h1 h2)).trans (hK.c i), fun i => (World.frozen?_of_block (w := W) (a := ⟨g', i, none⟩) (h.block g' h1 h2)).trans (hK.f i)⟩
theorem Turns.old {g : Nat} {new : Array Value} {B : Nat} {W W' : World} (h : Turns g new B W W') : (∀ b o, b < B → b ≠ g → W'.cell? ⟨b, o, none⟩ = W.cell? ⟨b, o, none⟩) ∧ (∀ b o, b < B → b ≠ g → W'.frozen? ⟨b, o, none⟩ = W.frozen? ⟨b, o, none⟩) :=
  ⟨fun b o hb hg => World.cell?_of_block (w := W) (a := ⟨b, o, none⟩) (h.block b hb hg), fun b o hb hg => World.frozen?_of_block (w := W) (a := ⟨b, o, none⟩) (h.block b hb hg)⟩
/-- a stored cell stays what it will be. -/
theorem Turns.stays {g : Nat} {new : Array Value} {B : Nat} {i : Nat} {v : Value} (hv : new[i]? = some v) (W W' : World) (h : W.cell? ⟨g, i, none⟩ = some v) (hS : Turns g new B W W') : W'.cell? ⟨g, i, none⟩ = some v :=
  (hS.cell i).elim (fun e => e.trans h) (fun e => e.1.trans hv)
namespace RelG
open Rel (Know Ctx deps facts ons GOK3)
variable {S : World → World → Prop} {P : Program} {DS : List Tmp} {w0 : World} {a0 : Act} {T : Ctx → Prop} {Γ : Ctx} {o : Oper} {rest : List Oper}
theorem call3 (hof : ∀ W W', S w0 W → Below W.heap.size W W' → S W W') (v : Value) (f : FuncId) (args : Array Value) (hg : GOK3 Γ o)
    (h : ∀ (a : Act) (W : World), S w0 W → deps Γ a W (ons o) → (∀ t, t ∉ DS → a.eval (.tmp t) = a0.eval (.tmp t)) → (execOp a.eval o).run P W = .ok (.enter f args) W)
    (hc : ∀ W, S w0 W → Calls P f args W fun e W' => e = .returned v ∧ Below W.heap.size W W')
    (hn : walk3 S P DS w0 a0 T (Γ ++ [(o.dst, fun u _ => u = v)]) rest) : walk3 S P DS w0 a0 T Γ (o :: rest) :=
  ⟨fun u _ => u = v, fun _ _ _ h _ => h, hg, fun a W hb hd hbase K Q hK => by
    have hrun := h a W hb hd hbase
    unfold Oper.wp
    rw [hrun]
    simp only [Oper.upon]
    refine (hc W hb).mono ?_
    rintro e W' ⟨rfl, hbb⟩
    exact hK v W' rfl (hof W W' hb hbb), hn⟩
end RelG
end Go.Proofs.YtpkldjlljoledaaGreatDoor

/- Worlds that turn in the row of one slice alone, which is as it was or as an append in place leaves it; an append in the head of a drawn region. No program. -/
namespace Go.Proofs.YtpkldjlljoledaaGreatDoor
open Go.RowKit
open Calm (bcell Blk)
/-- all that lay is as it was, but some blocks, each of which is as it was or as T says. -/
structure Grw (T : Nat → Obj → Prop) (W W' : World) : Prop where
  os : W'.os = W.os
  tape : W'.tape = W.tape
  output : W'.output = W.output
  size : W.heap.size ≤ W'.heap.size
  block : ∀ k, k < W.heap.size → W'.heap[k]? = W.heap[k]? ∨ ∃ o, T k o ∧ W'.heap[k]? = some o
theorem Grw.refl {T : Nat → Obj → Prop} (W : World) : Grw T W W := ⟨rfl, rfl, rfl, Nat.le_refl _, fun _ _ => .inl rfl⟩
theorem Grw.trans {T : Nat → Obj → Prop} (a b c : World) (h : Grw T a b) (h' : Grw T b c) : Grw T a c := by
  refine ⟨h'.os.trans h.os, h'.tape.trans h.tape, h'.output.trans h.output, Nat.le_trans h.size h'.size, fun k hk => ?_⟩
  rcases h'.block k (Nat.lt_of_lt_of_le hk h.size) with e' | e'
  · rcases h.block k hk with e | ⟨o, e1, e2⟩
    · exact .inl (e'.trans e)
    · exact .inr ⟨o, e1, e'.trans e2⟩
  · exact .inr e'
theorem Grw.drawn {T : Nat → Obj → Prop} (W : World) : Grw T W { W with drawn := W.drawn + 1 } := ⟨rfl, rfl, rfl, Nat.le_refl _, fun _ _ => .inl rfl⟩
theorem Grw.of {T : Nat → Obj → Prop} {W W' : World} (h : Below W.heap.size W W') : Grw T W W' := ⟨h.os, h.tape, h.output, h.size, fun k hk => .inl (h.block k hk)⟩
theorem Grw.below {T : Nat → Obj → Prop} {B : Nat} {W W' : World} (h : Grw T W W') (hg : ∀ k o, T k o → B ≤ k) (hB : B ≤ W.heap.size) : Below B W W' :=
  ⟨h.os, h.tape, h.output, h.size, fun k hk => (h.block k (by omega)).elim id (fun ⟨o, e1, _⟩ => by have := hg k o e1; omega)⟩
theorem ownsRow_block {W W' : World} {base e size n : Nat} {v : Value} {xs : List Value} (h : W.ownsRow base e size v n xs) (hb : ∀ k, v.ownBlock = some k → W'.heap[k]? = W.heap[k]?) : W'.ownsRow base e size v n xs := by
  refine ⟨h.1, ?_⟩
  rcases h.2 with h2 | ⟨g, cap, cur, h1, h2, h3, h4⟩
  · exact .inl h2
  · exact .inr ⟨g, cap, cur, h1, h2, (hb g (by rw [h1]; rfl)).trans h3, h4⟩
/-- what an append leaves: a row, in the old block or in a new one. -/
def RowAt (base e : Nat) (g : Option Nat) (o1 : Obj) (B n : Nat) (ys : List Value) : Rel.Know := fun v W =>
  W.ownsRow base e 1 v n ys ∧ ((∃ k, g = some k ∧ v.ownBlock = some k ∧ W.heap[k]? = some o1) ∨ ∃ k, v.ownBlock = some k ∧ B ≤ k)
theorem RowAt.stable {T : Nat → Obj → Prop} {base e : Nat} {g : Option Nat} {o1 : Obj} {B n : Nat} {ys : List Value} (hT : ∀ k o, T k o → k < B) (hg : ∀ k o, g = some k → T k o → o = o1) (v : Value) (W W' : World)
    (h : RowAt base e g o1 B n ys v W) (hS : Grw T W W') : RowAt base e g o1 B n ys v W' := by
  obtain ⟨h, hv⟩ := h
  rcases hv with ⟨k, hk, h1, h2⟩ | ⟨k, h1, h2⟩
  · have e1 : W'.heap[k]? = some o1 := (hS.block k (h.lt k h1).2).elim (fun e => e.trans h2) (fun ⟨o, e1, e2⟩ => by rw [e2, hg k o hk e1])
    exact ⟨ownsRow_block h (fun j hj => by rw [h1] at hj; cases hj; exact e1.trans h2.symm), .inl ⟨k, hk, h1, e1⟩⟩
  · have e1 : W'.heap[k]? = W.heap[k]? := (hS.block k (h.lt k h1).2).elim id (fun ⟨o, e1, _⟩ => by have := hT k o e1; omega)
    exact ⟨ownsRow_block h (fun j hj => by rw [h1] at hj; cases hj; exact e1), .inr ⟨k, h1, h2⟩⟩
/-- One value appended, wherever the world has turned to along Grw. -/
theorem append_grw {P : Program} (base : Nat) (t ty e : TypeId) (i : TypeInfo) (z : Value) (bytes : Nat) (ht : P.underlying t = some (.slice e)) (hi : P.info? e = some i) (hz : i.zero = some z) (hsize : i.size = 1) (hby : i.bytes = bytes) (hzs : z.cells.size = 1)
    (u : Value) (n : Nat) (xs : List Value) (x : Value) (h1 : x.oneCell' = true) (W0 : World) (hown : W0.ownsRow base e 1 u n xs) (hb : base ≤ W0.heap.size) (h63 : n + 1 ≤ maxLen) (hbytes : (n + 1) * bytes ≤ 140737488355328) :
    ∃ (g : Option Nat) (o1 : Obj), (∀ k, g = some k → u.ownBlock = some k ∧ base ≤ k ∧ k < W0.heap.size) ∧
      ∀ T : Nat → Obj → Prop, (∀ k, u.ownBlock = some k → ∀ o, T k o ↔ g = some k ∧ o = o1) →
      ∀ W, Grw T W0 W → ∀ b c, W.cell? ⟨b, 0, none⟩ = some x → ∃ v' W', (Builtin.append_ #[t, t] ty #[u, .slice (some ⟨b, 0, none⟩) 1 c]).run P W = .ok v' W' ∧ RowAt base e g o1 W0.heap.size (n + 1) (xs ++ [x]) v' W' ∧ Grw T W W' ∧ ((g ≠ none ∧ v'.ownBlock = g) ∨ v'.ownBlock = some W.heap.size) := by
  have hadd : ∀ {W : World} {b : Nat}, W.cell? ⟨b, 0, none⟩ = some x → ∀ j v, [x][j]? = some v → W.cell? ((⟨b, 0, none⟩ : Addr).add j) = some v := by
    intro W b hx j v hj
    match j, hj with
    | 0, hj => simp at hj; subst hj; simpa [Addr.add] using hx
  have hone : ∀ v ∈ [x], v.oneCell' = true := fun v hv => by simp at hv; subst hv; exact h1
  have hbb : ∀ {W : World}, W0.heap.size ≤ W.heap.size → base ≤ W.heap.size := fun h => by omega
  have fin : ∀ {W : World} {b c : Nat}, W0.heap.size ≤ W.heap.size → W.cell? ⟨b, 0, none⟩ = some x → W.ownsRow base e 1 u n xs →
      ∃ v' W', (Builtin.append_ #[t, t] ty #[u, .slice (some ⟨b, 0, none⟩) 1 c]).run P W = .ok v' W' ∧ W'.ownsRow base e 1 v' (n + 1) (xs ++ [x]) ∧ W.grownBy W' u.ownBlock ∧ (v'.ownBlock = u.ownBlock ∨ v'.ownBlock = some W.heap.size) := by
    intro W b c hs hx ho
    obtain ⟨v', W', r1, r2, r3, _, r5⟩ := run_append_own_at (P := P) W base t ty e i z 1 bytes ht hi hz hsize hby hzs (by decide) u n xs ho ⟨b, 0, none⟩ 1 c [x] rfl (hadd hx) hone h63 hbytes (hbb hs)
    exact ⟨v', W', r1, r2, r3, r5⟩
  rcases hown.2 with ⟨hu, hn0⟩ | ⟨g, cap, cur, hu, hbg, hg, hnc, hcm, hcs, htake⟩
  · refine ⟨none, .cells #[] e (0, 0), (fun k hk => by cases hk), fun T hT W hS b c hx => ?_⟩
    obtain ⟨v', W', r1, r2, r3, r5⟩ := fin (c := c) hS.size hx ⟨hown.1, .inl ⟨hu, hn0⟩⟩
    have hun : u.ownBlock = none := by rw [hu]; rfl
    rw [hun] at r3 r5
    have r6 : v'.ownBlock = some W.heap.size := by
      rcases r5 with r5 | r5
      · exfalso
        rcases r2.2 with ⟨_, q⟩ | ⟨g', _, _, q, _⟩
        · omega
        · rw [q] at r5; cases r5
      · exact r5
    exact ⟨v', W', r1, ⟨r2, .inr ⟨_, r6, hS.size⟩⟩, ⟨r3.os, r3.tape, r3.output, r3.size, fun k hk => .inl (r3.block k hk (by simp))⟩, .inr r6⟩
  · have hgl : g < W0.heap.size := (Array.getElem?_eq_some_iff.1 hg).1
    have hun : u.ownBlock = some g := by rw [hu]; rfl
    by_cases hroom : n + 1 ≤ cap
    · refine ⟨some g, .cells (cur.toList.take n ++ [x] ++ cur.toList.drop (n + 1)).toArray e (0, 0), (fun k hk => by cases hk; exact ⟨hun, hbg, hgl⟩), fun T hT W hS b c hx => ?_⟩
      have hlen : (cur.toList.take n).length = n := by simp; omega
      obtain ⟨cur', hg', hs', ht', hd'⟩ : ∃ cur' : Array Value, W.heap[g]? = some (.cells cur' e (0, 0)) ∧ cur'.size = cur.size ∧ cur'.toList.take n = cur.toList.take n ∧ cur'.toList.drop (n + 1) = cur.toList.drop (n + 1) := by
        rcases hS.block g hgl with e1 | ⟨oo, e0, e1⟩
        · exact ⟨cur, e1.trans hg, rfl, rfl, rfl⟩
        · rw [((hT g hun oo).1 e0).2] at e1
          refine ⟨_, e1, ?_, ?_, ?_⟩
          · simp; omega
          · simp only [List.append_assoc]
            exact List.take_left' hlen
          · simp only []
            exact List.drop_left' (by simp; omega)
      have hrun := run_append_room (P := P) W t ty e i ht hi g n cap cur' hg' ⟨b, 0, none⟩ 1 c [x] (by rw [hsize]; rfl) (hadd hx) hone hroom (by rw [hsize, hs', hcs]; simp; omega)
      rw [hsize, Nat.mul_one, ht', show n + [x].length = n + 1 from rfl, hd'] at hrun
      have hh := setRow_heap W g cur' (cur.toList.take n ++ [x] ++ cur.toList.drop (n + 1)).toArray e (0, 0) hg'
      refine ⟨.slice (some ⟨g, 0, none⟩) (n + 1) cap, _, by rw [hu]; exact hrun, ⟨⟨by simp [hown.1], .inr ⟨g, cap, _, rfl, hbg, hh, hroom, hcm, ?_, ?_⟩⟩, .inl ⟨g, rfl, rfl, hh⟩⟩, ⟨rfl, rfl, rfl, by simp, fun k _ => ?_⟩, .inl ⟨by simp, rfl⟩⟩
      · simp; omega
      · have hx' : cur.toList.take n = xs := by simpa using htake
        simp only [Nat.mul_one]
        rw [hx']
        exact List.take_left' (by simp [hown.1])
      · by_cases hk : k = g
        · subst hk; exact .inr ⟨_, (hT k hun _).2 ⟨rfl, rfl⟩, hh⟩
        · exact .inl (setRow_other W g k _ hk)
    · refine ⟨none, .cells #[] e (0, 0), (fun k hk => by cases hk), fun T hT W hS b c hx => ?_⟩
      have hsame : ∀ k, u.ownBlock = some k → W.heap[k]? = W0.heap[k]? := fun k hk => (hS.block k (hown.lt k hk).2).elim id (fun ⟨o, e1, _⟩ => by cases ((hT k hk o).1 e1).1)
      have ho : W.ownsRow base e 1 u n xs := ownsRow_block hown hsame
      obtain ⟨v', W', r1, r2, r3, r5⟩ := fin (c := c) hS.size hx ho
      have hcell : ∀ j v, xs[j]? = some v → W.cell? ((⟨g, 0, none⟩ : Addr).add j) = some v := ho.cells (g := g) (by rw [hun])
      have hgr := run_append_grow (P := P) W t ty e i z ht hi hz ⟨g, 0, none⟩ n cap xs (by rw [hown.1, hsize]) hcell ⟨b, 0, none⟩ 1 c [x] (by rw [hsize]; rfl) (hadd hx) (by omega) (by simp only [maxLen] at h63; omega) (growslice_fits (by omega) (by rw [hby]; exact hbytes))
      rw [← hu, r1] at hgr
      injection hgr with q1 q2
      have hW : ∀ k, k < W.heap.size → W'.heap[k]? = W.heap[k]? := fun k hk => by rw [q2]; exact Below.heap_alloc _ _ _ hk
      exact ⟨v', W', r1, ⟨r2, .inr ⟨W.heap.size, by rw [q1]; rfl, hS.size⟩⟩, ⟨r3.os, r3.tape, r3.output, r3.size, fun k hk => .inl (hW k hk)⟩, .inr (by rw [q1]; rfl)⟩
end Go.Proofs.YtpkldjlljoledaaGreatDoor

/- Regions whose order is open, the world turning along any relation S, where what is known of a value may name the values that its operation waited for (RelG with one limb more). No program. -/
namespace Go.Proofs.YtpkldjlljoledaaGreatDoor.RelH
open Go.RowKit
open Rel (dst puts upd puts_agree puts_put Apart apart_of puts_new put_size puts_size puts_other eval_put_same puts_here wanted_of countP_upd left Ln okB sizeB all_listed listed_Ln some_ready ons)

/-- What is known of the value of an operation: the values of all operations, this one's, the world. -/
abbrev DK := (Nat → Value) → Value → World → Prop
/-- .. it names no value but those that the operation waited for. -/
def Loc (o : Oper) (R : DK) : Prop := ∀ x y : Nat → Value, (∀ e ∈ o.after, Region.binds .any e = true → x e.on = y e.on) → ∀ v W, R x v W → R y v W
def GOK (ops : Array Oper) (Γ : List DK) (o : Oper) : Prop :=
  o.guard = none ∨ ∃ g b t, o.guard = some (g, b) ∧ (∃ e ∈ o.after, Region.binds .any e = true ∧ e.on = g) ∧ dst ops g = some t ∧ Γ[g]? = some (fun _ u _ => u = .bool b)
theorem GOK.mono {ops : Array Oper} {Γ Δ : List DK} {o : Oper} (h : GOK ops Γ o) (hsub : ∀ (g : Nat) (K : DK), Γ[g]? = some K → Δ[g]? = some K) : GOK ops Δ o := by
  rcases h with h | ⟨g, b, t, h1, h2, h3, h4⟩
  · exact .inl h
  · exact .inr ⟨g, b, t, h1, h2, h3, hsub _ _ h4⟩

/-- .. and stays known along S. -/
def Stable (S : World → World → Prop) (R : DK) : Prop := ∀ x v W W', R x v W → S W W' → R x v W'

section
variable {P : Program} {ops : Array Oper} {S : World → World → Prop}

/-- What an operation of the head must show: wherever it comes up. -/
def Ob (S : World → World → Prop) (P : Program) (ops : Array Oper) (n : Nat) (w0 : World) (a0 : Act) (Γ : List DK) (o : Oper) (R : DK) : Prop :=
  ∀ (a : Act) (W : World) (x : Nat → Value), S w0 W → a.tmps.size = a0.tmps.size →
    (∀ e ∈ o.after, Region.binds .any e = true → ∀ t, dst ops e.on = some t → x e.on = a.eval (.tmp t)) →
    (∀ e ∈ o.after, Region.binds .any e = true → ∀ K, Γ[e.on]? = some K → K x (x e.on) W) →
    (∀ t, (∀ j, j < n → dst ops j ≠ some t) → a.eval (.tmp t) = a0.eval (.tmp t)) →
    ∀ (K : Act → World → Prop) (Q : Exit → Act → World → Prop), (∀ v W', R x v W' → S W W' → K (a.put o.dst v) W') → o.wp P a W K Q


/-- The walk in the order of the text: at each operation something that stays known is chosen. -/
def walk (S : World → World → Prop) (P : Program) (ops : Array Oper) (n : Nat) (w0 : World) (a0 : Act) (T : List DK → Prop) : List DK → List Oper → Prop
  | Γ, [] => T Γ
  | Γ, o :: l => ∃ R, Stable S R ∧ Loc o R ∧ GOK ops Γ o ∧ (dst ops Γ.length = o.dst → Ob S P ops n w0 a0 Γ o R) ∧ walk S P ops n w0 a0 T (Γ ++ [R]) l


theorem walk_all {n : Nat} {w0 : World} {a0 : Act} {T : List DK → Prop} : ∀ (l : List Oper) (Γ : List DK), walk S P ops n w0 a0 T Γ l →
    ∃ Δ : List DK, Δ.length = l.length ∧ T (Γ ++ Δ) ∧ ∀ k o, l[k]? = some o → ∃ R, Δ[k]? = some R ∧ Stable S R ∧ Loc o R ∧ GOK ops (Γ ++ Δ.take k) o ∧ (dst ops (Γ.length + k) = o.dst → Ob S P ops n w0 a0 (Γ ++ Δ.take k) o R)
  | [], Γ, h => ⟨[], rfl, by simpa [walk] using h, fun k o hk => by simp at hk⟩
  | o :: l, Γ, h => by
    obtain ⟨R, hs, hlc, hg, hob, hw⟩ := h
    obtain ⟨Δ, hl, hT, hall⟩ := walk_all l _ hw
    refine ⟨R :: Δ, by simp [hl], by simpa using hT, fun k o' hk => ?_⟩
    cases k with
    | zero =>
      obtain rfl : o = o' := by simpa using hk
      exact ⟨R, rfl, hs, hlc, by simpa using hg, by simpa using hob⟩
    | succ k =>
      obtain ⟨R', h1, h2, h2', h3, h4⟩ := hall k o' (by simpa using hk)
      refine ⟨R', by simpa using h1, h2, h2', by simpa using h3, fun hd => ?_⟩
      have := h4 (by rw [← hd]; congr 1; simp; omega)
      simpa using this

theorem Ob.mono {n : Nat} {w0 : World} {a0 : Act} {Γ Δ : List DK} {o : Oper} {R : DK} (h : Ob S P ops n w0 a0 Γ o R) (hsub : ∀ e ∈ o.after, ∀ K, Γ[e.on]? = some K → Δ[e.on]? = some K) : Ob S P ops n w0 a0 Δ o R :=
  fun a W x hb hz hx hd hbase K Q hK => h a W x hb hz hx (fun e he hbd K' hK' => hd e he hbd K' (hsub e he K' hK')) hbase K Q hK

/-- What holds while the head is on its way. -/
structure Inv (S : World → World → Prop) (ops : Array Oper) (n : Nat) (w0 : World) (a0 : Act) (Γ : List DK) (listed : Array Bool) (a : Act) (W : World) : Prop where
  below : S w0 W
  vals : ∃ x : Nat → Value, a = puts ops x (fun j => listed.getD j false) (List.range n) a0 ∧ ∀ j, j < n → listed.getD j false = true → ∀ K, Γ[j]? = some K → K x (x j) W


theorem go (ht' : ∀ a b c, S a b → S b c → S a c) {n : Nat} {Q : Exit → Act → World → Prop} {w0 : World} {a0 : Act} {Γ : List DK} (hok : okB ops n = true) (hsz : sizeB ops n a0.tmps.size = true)
    (hΓ : ∀ k, k < n → ∃ o R, ops[k]? = some o ∧ Γ[k]? = some R ∧ Stable S R ∧ Loc o R ∧ GOK ops Γ o ∧ Ob S P ops n w0 a0 Γ o R)
    (hend : ∀ (x : Nat → Value) (W : World), S w0 W → (∀ j, j < n → ∀ K, Γ[j]? = some K → K x (x j) W) → wpAny P .any ops Q (ops.size - n) (Ln n ops.size) (puts ops x (fun _ => true) (List.range n) a0) W) :
    ∀ (f : Nat) (listed : Array Bool) (a : Act) (W : World), HeadInv .any ops n listed → left n listed = f → Inv S ops n w0 a0 Γ listed a W → wpAny P .any ops Q (f + (ops.size - n)) listed a W := by
  simp only [okB, Bool.and_eq_true, decide_eq_true_eq] at hok
  obtain ⟨⟨⟨⟨⟨hn, hs⟩, hc⟩, _⟩, hap⟩, hback⟩ := hok
  have hap := apart_of hap
  intro f
  induction f with
  | zero =>
    intro listed a W inv hl hI
    obtain ⟨hb, x, rfl, hx⟩ := hI
    have hall := all_listed hl
    rw [Nat.zero_add]
    rw [puts_agree (p' := fun _ => true) (x' := x) (List.range n) a0 (fun j hj => ⟨hall j (List.mem_range.1 hj), fun _ => rfl⟩), listed_Ln inv hl (by omega)]
    exact hend x W hb (fun j hj K hK => hx j hj (hall j hj) K hK)
  | succ f ih =>
    intro listed a W inv hl hI
    have hex : ∃ k, k < n ∧ listed.getD k true = false := by
      apply Classical.byContradiction
      intro hno
      have : left n listed = 0 := List.countP_eq_zero.2 (fun j hj => by
        have hj := List.mem_range.1 hj
        have hjs : j < listed.size := by rw [inv.size]; omega
        cases h : listed.getD j false with
        | true => simp
        | false => exact absurd ⟨j, hj, getD_in hjs h⟩ hno)
      omega
    obtain ⟨k, hk, hun⟩ := hex
    rw [show f + 1 + (ops.size - n) = (f + (ops.size - n)) + 1 by omega]
    refine ⟨fun h0 => ?_, fun i hi => ?_⟩
    · obtain ⟨i, hi⟩ := some_ready inv hback hn (k + 1) k (by omega) hk hun
      rw [h0] at hi
      cases hi
    have hin : i < n := by
      rcases Nat.lt_or_ge i n with h | h
      · exact h
      · exact absurd hi (tail_waits hs hc hn inv _ k rfl hk hun i h)
    obtain ⟨hiun, oi, hoi, hdeps⟩ := mem_ready.1 hi
    obtain ⟨o, R, ho, hR, hst, hlc, hg, hob⟩ := hΓ i hin
    obtain rfl : oi = o := Option.some.inj (hoi.symm.trans ho)
    obtain ⟨hb, x, rfl, hx⟩ := hI
    have hdi : dst ops i = oi.dst := by simp [dst, ho]
    have his : i < listed.size := by rw [inv.size]; omega
    have hif : listed.getD i false = false := getD_both hiun
    have hszt : ∀ j t, j < n → dst ops j = some t → t < a0.tmps.size := fun j t hj hd => by
      have := List.all_eq_true.1 hsz j (List.mem_range.2 hj)
      simpa [hd] using this
    have back : ∀ e ∈ oi.after, Region.binds .any e = true → e.on < i := fun e he hbd => by
      have h1 := List.all_eq_true.1 hback i (List.mem_range.2 (by omega))
      simp only [ho] at h1
      simpa [hbd] using Array.all_eq_true'.1 h1 e he
    unfold wpOp
    simp only [ho]
    have hwant : Region.wanted oi (yielded ops (puts ops x (fun j => listed.getD j false) (List.range n) a0).tmps) = true := by
      rcases hg with hg | ⟨g, b, t, hg, ⟨e, he, hbd, rfl⟩, hd, hK⟩
      · simp [Region.wanted, hg]
      · have hel := hdeps e he hbd
        have hen : e.on < n := by have := back e he hbd; omega
        have h1 := puts_here (x := x) (p := fun j => listed.getD j false) hap hen hel hd (List.range n) a0 (List.nodup_range) (List.mem_range.2 hen) (fun j hj => List.mem_range.1 hj) (hszt _ _ hen hd)
        have h2 : x e.on = .bool b := hx e.on hen hel _ hK
        have h3 : t < (puts ops x (fun j => listed.getD j false) (List.range n) a0).tmps.size := by rw [puts_size]; exact hszt _ _ hen hd
        rw [h2] at h1
        exact wanted_of hg hd h1 h3
    rw [if_pos hwant]
    refine .inl (hob _ W x hb (puts_size _ _) ?_ ?_ ?_ _ _ ?_)
    · intro e he hbd t ht
      have hel := hdeps e he hbd
      have hen : e.on < n := by have := back e he hbd; omega
      rw [puts_here hap hen hel ht (List.range n) a0 (List.nodup_range) (List.mem_range.2 hen) (fun j hj => List.mem_range.1 hj) (hszt _ _ hen ht)]
    · intro e he hbd K hK
      exact hx e.on (by have := back e he hbd; omega) (hdeps e he hbd) K hK
    · intro t ht
      exact puts_other _ _ (fun j hj => ht j (List.mem_range.1 hj))
    · intro v W' hv hb'
      have hget : ∀ j, (listed.setIfInBounds i true).getD j false = upd (fun j => listed.getD j false) i true j := by
        intro j
        by_cases hji : j = i
        · subst hji
          simp [upd, his]
        · rw [getD_set_ne false (Ne.symm hji)]
          simp [upd, hji]
      refine ih _ _ W' (inv.set hi hin) ?_ ⟨ht' _ _ _ hb hb', upd x i v, ?_, ?_⟩
      · have h1 := countP_upd (i := i) (p := fun j => !listed.getD j false) (by simp [hif]) (List.range n) List.nodup_range (List.mem_range.2 hin)
        have h2 : left n (listed.setIfInBounds i true) = (List.range n).countP (upd (fun j => !listed.getD j false) i false) := by
          unfold left
          congr 1
          funext j
          rw [hget j]
          by_cases hji : j = i <;> simp [upd, hji]
        unfold left at hl
        omega
      · rw [← hdi, puts_new hap hin hif (List.range n) a0 List.nodup_range (List.mem_range.2 hin) (fun j hj => List.mem_range.1 hj)]
        exact puts_agree _ _ (fun j _ => ⟨(hget j).symm, fun _ => rfl⟩)
      · intro j hj hlj K hK
        rw [hget j] at hlj
        by_cases hji : j = i
        · subst hji
          obtain rfl : R = K := Option.some.inj (hR.symm.trans hK)
          have h1 : R (upd x j v) v W' := hlc x (upd x j v) (fun e he hbd => by
            have := back e he hbd
            simp [upd, show e.on ≠ j by omega]) v W' hv
          simpa [upd] using h1
        · have e1 : upd x i v j = x j := by simp [upd, hji]
          have e2 : listed.getD j false = true := by simpa [upd, hji] using hlj
          rw [e1]
          obtain ⟨oj, R', hoj', hR', hst', hlc', _⟩ := hΓ j hj
          obtain rfl : R' = K := Option.some.inj (hR'.symm.trans hK)
          refine hlc' x (upd x i v) (fun e he hbd => ?_) _ _ (hst' _ _ _ _ (hx j hj e2 _ hK) hb')
          have h1 := inv.closed j oj hoj' e2 e he hbd
          have h2 : e.on ≠ i := fun h => by rw [h, hif] at h1; cases h1
          simp [upd, h2]

/-- The frame with all values of the head. -/
def fill : List Oper → Nat → (Nat → Value) → Act → Act
  | [], _, _, a => a
  | o :: l, k, x, a => fill l (k + 1) x (a.put o.dst (x k))
theorem fill_puts {x : Nat → Value} : ∀ (l : List Oper) (k : Nat) (a : Act), (∀ j, j < l.length → l[j]? = ops[k + j]?) → fill l k x a = puts ops x (fun _ => true) (List.range' k l.length) a
  | [], _, _, _ => rfl
  | o :: l, k, a, h => by
    have h0 : ops[k]? = some o := by simpa using (h 0 (by simp)).symm
    have hd : dst ops k = o.dst := by simp [dst, h0]
    simp only [fill, List.length_cons, List.range'_succ, puts, if_true, hd]
    exact fill_puts l (k + 1) _ (fun j hj => by have := h (j + 1) (by simp; omega); simpa [Nat.add_assoc, Nat.add_comm 1 j] using this)

/-- ████ The region. -/
theorem region (ht' : ∀ a b c, S a b → S b c → S a c) (hdr : ∀ W, S W { W with drawn := W.drawn + 1 }) {id : Nat} {Q : Exit → Act → World → Prop} {a : Act} {w : World} {l : List Oper} (n : Nat) (hm : P.follows .mixedOrders = true) (hok : okB l.toArray n = true) (hsz : sizeB l.toArray n a.tmps.size = true)
    (h : walk S P l.toArray n w a (fun (Γ : List DK) => ∀ (x : Nat → Value) (W : World), S w W → (∀ (j : Nat) (K : DK), Γ[j]? = some K → K x (x j) W) → wpList P l.toArray Q (l.drop n) (fill (l.take n) 0 x a) W) [] (l.take n)) :
    (Code.region id l.toArray true).wp P Q a w := by
  have hok' := hok
  simp only [okB, Bool.and_eq_true, decide_eq_true_eq] at hok'
  obtain ⟨⟨⟨⟨⟨hn, _⟩, _⟩, hseq⟩, _⟩, hback⟩ := hok'
  have hn' : n < l.length := by simpa using hn
  have htl : (l.take n).length = n := by simp; omega
  obtain ⟨Δ, hlen, hT, hall⟩ := walk_all _ _ h
  rw [List.nil_append] at hT
  rw [htl] at hlen
  have hget : ∀ k, k < n → (l.take n)[k]? = l.toArray[k]? := fun k hk => by simp [List.getElem?_take, hk]
  have hΓ : ∀ k, k < n → ∃ o R, l.toArray[k]? = some o ∧ Δ[k]? = some R ∧ Stable S R ∧ Loc o R ∧ GOK l.toArray Δ o ∧ Ob S P l.toArray n w a Δ o R := by
    intro k hk
    obtain ⟨o, ho⟩ : ∃ o, l.toArray[k]? = some o := ⟨_, Array.getElem?_eq_getElem (by simp; omega)⟩
    obtain ⟨R, h1, h2, h2', h3, h4⟩ := hall k o (by rw [hget k hk, ho])
    rw [List.nil_append] at h3
    refine ⟨o, R, ho, h1, h2, h2', h3.mono (fun g K hK => by
      rw [List.getElem?_take] at hK
      split at hK
      · exact hK
      · cases hK), (h4 (by simp only [List.length_nil, Nat.zero_add]; simp [dst, ho])).mono fun e he K hK => ?_⟩
    rw [List.nil_append] at hK
    rw [List.getElem?_take] at hK
    split at hK
    · exact hK
    · cases hK
  have inv0 : HeadInv .any l.toArray n (Array.replicate l.toArray.size false) :=
    ⟨by simp, fun j oj _ hl => (by rw [getD_replicate_false] at hl; cases hl), fun t _ ht => getD_in (by simpa using ht) (getD_replicate_false _ _)⟩
  have hleft : left n (Array.replicate l.toArray.size false) = n := by
    unfold left
    rw [List.countP_eq_length.2 (fun j _ => by rw [getD_replicate_false]; rfl), List.length_range]
  have hputs : ∀ x, puts l.toArray x (fun _ => true) (List.range n) a = fill (l.take n) 0 x a := fun x => by
    rw [fill_puts (ops := l.toArray) (l.take n) 0 a (fun j hj => by rw [htl] at hj; rw [hget j hj, Nat.zero_add]), htl, List.range_eq_range']
  have H := go ht' (P := P) (Q := Q) (w0 := w) (a0 := a) hok hsz hΓ (fun x W hb hx => by
    have hdl : (l.drop n).length = l.toArray.size - n := by simp
    have := wpAny_of_seq (md := .any) (Q' := Q) (ops := l.toArray) (P := P) (l.drop n) n (Ln n l.toArray.size) (fill (l.take n) 0 x a) W (fun j => by simp [List.getElem?_drop]) (by rw [hdl]; exact hseq)
      (hT x W hb (fun j K hK => hx j (by
        have := (List.getElem?_eq_some_iff.1 hK).1
        omega) K hK))
    rw [hputs x, ← hdl]
    exact this) n _ a { w with drawn := w.drawn + 1 } inv0 hleft ⟨hdr w, fun _ => undef, by
      rw [puts_agree (p' := fun _ => false) (x' := fun _ => undef) (List.range n) a (fun j _ => ⟨getD_replicate_false _ _, fun _ => rfl⟩)]
      exact (show ∀ (L : List Nat) (b : Act), b = puts l.toArray (fun _ => undef) (fun _ => false) L b from fun L => by
        induction L with
        | nil => intro b; rfl
        | cons j L ih => intro b; unfold puts; simpa using ih b) _ _, fun j _ hl => by rw [getD_replicate_false] at hl; cases hl⟩
  refine wp_region_any hm ?_
  have e : n + (l.toArray.size - n) = l.toArray.size := by omega
  rw [e] at H
  exact H

end

abbrev Ctx := List (Option Tmp × DK)
def dep1 (x : Nat → Value) (j : Nat) : Option (Option Tmp × DK) → Act → World → Prop
  | some (some t, K), a, W => x j = a.eval (.tmp t) ∧ K x (a.eval (.tmp t)) W
  | _, _, _ => True
def deps (x : Nat → Value) (Γ : Ctx) (a : Act) (W : World) : List Nat → Prop
  | [] => True
  | j :: js => dep1 x j Γ[j]? a W ∧ deps x Γ a W js
theorem deps_of {x : Nat → Value} {Γ : Ctx} {a : Act} {W : World} : ∀ (js : List Nat), (∀ j ∈ js, dep1 x j Γ[j]? a W) → deps x Γ a W js
  | [], _ => trivial
  | j :: js, h => ⟨h j (by simp), deps_of js (fun k hk => h k (by simp [hk]))⟩
def facts (x : Nat → Value) (W : World) : Nat → Ctx → Prop
  | _, [] => True
  | k, (_, K) :: l => K x (x k) W ∧ facts x W (k + 1) l
theorem facts_of {x : Nat → Value} {W : World} : ∀ (l : Ctx) (k : Nat), (∀ (j : Nat) (K : DK), (l.map (·.2))[j]? = some K → K x (x (k + j)) W) → facts x W k l
  | [], _, _ => trivial
  | (d, K) :: l, k, h => ⟨h 0 K rfl, facts_of l (k + 1) (fun j K' hj => by have := h (j + 1) K' (by simpa using hj); rw [show k + 1 + j = k + (j + 1) by omega]; exact this)⟩
def GOK3 (Γ : Ctx) (o : Oper) : Prop := o.guard = none ∨ ∃ g b t, o.guard = some (g, b) ∧ g ∈ ons o ∧ Γ[g]? = some (some t, fun _ u _ => u = .bool b)
theorem gno {Γ : Ctx} {o : Oper} (h : o.guard = none) : GOK3 Γ o := .inl h
theorem gyes {Γ : Ctx} {o : Oper} (g : Nat) (b : Bool) (t : Tmp) (h1 : o.guard = some (g, b)) (h2 : (ons o).contains g = true) (h3 : Γ[g]? = some (some t, fun _ u _ => u = .bool b)) : GOK3 Γ o :=
  .inr ⟨g, b, t, h1, by simpa using h2, h3⟩
def Ob3 (S : World → World → Prop) (P : Program) (DS : List Tmp) (w0 : World) (a0 : Act) (Γ : Ctx) (o : Oper) (R : DK) : Prop :=
  ∀ (a : Act) (W : World) (x : Nat → Value), S w0 W → deps x Γ a W (ons o) → (∀ t, t ∉ DS → a.eval (.tmp t) = a0.eval (.tmp t)) →
    ∀ (K : Act → World → Prop) (Q : Exit → Act → World → Prop), (∀ v W', R x v W' → S W W' → K (a.put o.dst v) W') → o.wp P a W K Q

def walk3 (S : World → World → Prop) (P : Program) (DS : List Tmp) (w0 : World) (a0 : Act) (T : Ctx → Prop) : Ctx → List Oper → Prop
  | Γ, [] => T Γ
  | Γ, o :: l => ∃ R, Stable S R ∧ Loc o R ∧ GOK3 Γ o ∧ Ob3 S P DS w0 a0 Γ o R ∧ walk3 S P DS w0 a0 T (Γ ++ [(o.dst, R)]) l
theorem walk_of_walk3 {S : World → World → Prop} {P : Program} {ops : Array Oper} {n : Nat} {DS : List Tmp} {w0 : World} {a0 : Act} {T : Ctx → Prop} {T' : List DK → Prop} (hDS : ∀ t, t ∉ DS → ∀ j, j < n → dst ops j ≠ some t)
    (hT : ∀ Γ, T Γ → T' (Γ.map (·.2))) :
    ∀ (l : List Oper) (Γ : Ctx), (∀ j, j < l.length → l[j]? = ops[Γ.length + j]?) → (∀ j d R, Γ[j]? = some (d, R) → dst ops j = d) → walk3 S P DS w0 a0 T Γ l → walk S P ops n w0 a0 T' (Γ.map (·.2)) l
  | [], Γ, _, _, h => hT Γ h
  | o :: l, Γ, hl, hΓ, h => by
    obtain ⟨R, hs, hlc, hg, hob, hw⟩ := h
    have h0 : ops[Γ.length]? = some o := by simpa using (hl 0 (by simp)).symm
    have hg' : GOK ops (Γ.map (·.2)) o := by
      rcases hg with hg | ⟨g, b, t, hg, hin, hΓg⟩
      · exact .inl hg
      · obtain ⟨e, he, rfl⟩ := List.mem_map.1 hin
        obtain ⟨he1, he2⟩ := List.mem_filter.1 he
        exact .inr ⟨e.on, b, t, hg, ⟨e, by simpa using he1, he2, rfl⟩, hΓ _ _ _ hΓg, by simp [hΓg]⟩
    refine ⟨R, hs, hlc, hg', fun _ => ?_, ?_⟩
    · intro a W x hb hz hx hd hbase K Q hK
      refine hob a W x hb (deps_of _ fun j hj => ?_) (fun t ht => hbase t (fun j hj => hDS t ht j hj)) K Q hK
      obtain ⟨e, he, rfl⟩ := List.mem_map.1 hj
      obtain ⟨he1, he2⟩ := List.mem_filter.1 he
      have he' : e ∈ o.after := by simpa using he1
      cases hc : Γ[e.on]? with
      | none => trivial
      | some c =>
        obtain ⟨d, K'⟩ := c
        cases d with
        | none => trivial
        | some t =>
          have h1 := hx e he' he2 t (hΓ _ _ _ hc)
          have h2 := hd e he' he2 K' (by simp [hc])
          exact ⟨h1, h1 ▸ h2⟩
    · have := walk_of_walk3 hDS hT l (Γ ++ [(o.dst, R)]) (fun j hj => by
        have := hl (j + 1) (by simp; omega)
        simpa [Nat.add_assoc, Nat.add_comm 1 j] using this) (fun j d R' hj => by
        rcases Nat.lt_or_ge j Γ.length with h | h
        · rw [List.getElem?_append_left h] at hj
          exact hΓ j d R' hj
        · have hjl : j < (Γ ++ [(o.dst, R)]).length := (List.getElem?_eq_some_iff.1 hj).1
          obtain rfl : j = Γ.length := by simp at hjl; omega
          simp at hj
          rw [← hj.1]
          simp [dst, h0]) hw
      simpa using this

theorem region3 {S : World → World → Prop} (ht' : ∀ a b c, S a b → S b c → S a c) (hdr : ∀ W, S W { W with drawn := W.drawn + 1 }) {P : Program} {id : Nat} {Q : Exit → Act → World → Prop} {a : Act} {w : World} {l : List Oper} (n : Nat) (hm : P.follows .mixedOrders = true) (hok : okB l.toArray n = true) (hsz : sizeB l.toArray n a.tmps.size = true)
    (h : walk3 S P ((l.take n).filterMap (·.dst)) w a (fun Γ => ∀ (x : Nat → Value) (W : World), S w W → facts x W 0 Γ → wpList P l.toArray Q (l.drop n) (fill (l.take n) 0 x a) W) [] (l.take n)) :
    (Code.region id l.toArray true).wp P Q a w := by
  have hn' : n < l.length := by
    simp only [okB, Bool.and_eq_true, decide_eq_true_eq] at hok
    simpa using hok.1.1.1.1.1
  have htl : (l.take n).length = n := by simp; omega
  refine region ht' hdr n hm hok hsz (walk_of_walk3 (n := n) (fun t ht j hj hd => ht ?_) (fun Γ hT x W hb hx => hT x W hb (facts_of Γ 0 (fun j K hj => by rw [Nat.zero_add]; exact hx j K hj))) (l.take n) [] (fun j hj => by
      rw [htl] at hj
      simp [List.getElem?_take, hj]) (fun j d R hj => by simp at hj) h)
  have hlj : j < l.length := by omega
  simp [dst, hlj] at hd
  exact List.mem_filterMap.2 ⟨l[j], List.mem_iff_getElem.2 ⟨j, by omega, by simp⟩, hd⟩
section
variable {S : World → World → Prop} {P : Program} {DS : List Tmp} {w0 : World} {a0 : Act} {T : Ctx → Prop} {Γ : Ctx} {o : Oper} {rest : List Oper}

theorem loc_const {o : Oper} {R : Value → World → Prop} : Loc o (fun _ => R) := fun _ _ _ _ _ h => h
theorem op3 (hr : ∀ W, S W W) (v : Value) (hg : GOK3 Γ o) (h : ∀ (a : Act) (W : World) (x : Nat → Value), S w0 W → deps x Γ a W (ons o) → (∀ t, t ∉ DS → a.eval (.tmp t) = a0.eval (.tmp t)) → (execOp a.eval o).run P W = .ok (.value v) W)
    (hn : walk3 S P DS w0 a0 T (Γ ++ [(o.dst, fun _ u _ => u = v)]) rest) : walk3 S P DS w0 a0 T Γ (o :: rest) :=
  ⟨_, fun _ _ _ _ h _ => h, loc_const, hg, fun a W x hb hd hbase K Q hK => by
    unfold Oper.wp
    rw [h a W x hb hd hbase]
    exact hK v W rfl (hr W), hn⟩
/-- One operation that yields a value, and may turn the world. -/
theorem opW3 (R : DK) (hs : Stable S R) (hl : Loc o R) (hg : GOK3 Γ o)
    (h : ∀ (a : Act) (W : World) (x : Nat → Value), S w0 W → deps x Γ a W (ons o) → (∀ t, t ∉ DS → a.eval (.tmp t) = a0.eval (.tmp t)) → ∃ v W', (execOp a.eval o).run P W = .ok (.value v) W' ∧ R x v W' ∧ S W W')
    (hn : walk3 S P DS w0 a0 T (Γ ++ [(o.dst, R)]) rest) : walk3 S P DS w0 a0 T Γ (o :: rest) :=
  ⟨R, hs, hl, hg, fun a W x hb hd hbase K Q hK => by
    obtain ⟨v, W', hrun, hR, hS⟩ := h a W x hb hd hbase
    unfold Oper.wp
    rw [hrun]
    exact hK v W' hR hS, hn⟩
/-- An append. -/
theorem app3 (R : DK) (hs : Stable S R) (hl : Loc o R) (s y : Operand) (t : TypeId) (hop : o.op = .call { callee := .builtin .append, args := #[s, y], argTypes := #[t, t] }) (hg : GOK3 Γ o)
    (h : ∀ (a : Act) (W : World) (x : Nat → Value), S w0 W → deps x Γ a W (ons o) → (∀ t, t ∉ DS → a.eval (.tmp t) = a0.eval (.tmp t)) → ∃ v W', (Builtin.append_ #[t, t] o.type #[a.eval s, a.eval y]).run P W = .ok v W' ∧ R x v W' ∧ S W W')
    (hn : walk3 S P DS w0 a0 T (Γ ++ [(o.dst, R)]) rest) : walk3 S P DS w0 a0 T Γ (o :: rest) :=
  ⟨R, hs, hl, hg, fun a W x hb hd hbase K Q hK => by
    obtain ⟨v, W', hrun, hR, hS⟩ := h a W x hb hd hbase
    unfold Oper.wp
    simp [execOp, hop, resolve, invoke, builtin, hrun, Result.andThen]
    exact hK v W' hR hS, hn⟩
theorem done3 (h : T Γ) : walk3 S P DS w0 a0 T Γ [] := h
end
end Go.Proofs.YtpkldjlljoledaaGreatDoor.RelH
