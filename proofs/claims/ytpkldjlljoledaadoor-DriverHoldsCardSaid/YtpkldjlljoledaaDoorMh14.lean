/- Part 14 of the texts of the claim: RelG, RelT, D1. -/
import Derived.Test.YtpkldjlljoledaaDoorMh13
import Derived.Test.YtpkldjlljoledaaDoorMh9
import Derived.Test.YtpkldjlljoledaaDoorMh1

/- Regions whose order is open, the world turning along any relation S (reflexive, transitive): stores in the head. Printed by relg.py. -/
namespace Go.Proofs.YtpkldjlljoledaaDoor.RelG
open Go.RowKit
open Rel (Know dst puts upd puts_agree puts_put Apart apart_of puts_new put_size puts_size puts_other eval_put_same puts_here wanted_of GOK countP_upd left Ln okB sizeB all_listed listed_Ln some_ready fill fill_puts Ctx dep1 deps deps_of facts facts_of ons GOK3)

/-- .. and stays known along S. -/
def Stable (S : World → World → Prop) (R : Know) : Prop := ∀ v W W', R v W → S W W' → R v W'

section
variable {P : Program} {ops : Array Oper} {S : World → World → Prop}

/-- What an operation of the head must show: wherever it comes up. -/
def Ob (S : World → World → Prop) (P : Program) (ops : Array Oper) (n : Nat) (w0 : World) (a0 : Act) (Γ : List Know) (o : Oper) (R : Know) : Prop :=
  ∀ (a : Act) (W : World), S w0 W → a.tmps.size = a0.tmps.size →
    (∀ e ∈ o.after, Region.binds .any e = true → ∀ t, dst ops e.on = some t → ∀ K, Γ[e.on]? = some K → K (a.eval (.tmp t)) W) →
    (∀ t, (∀ j, j < n → dst ops j ≠ some t) → a.eval (.tmp t) = a0.eval (.tmp t)) →
    ∀ (K : Act → World → Prop) (Q : Exit → Act → World → Prop), (∀ v W', R v W' → S W W' → K (a.put o.dst v) W') → o.wp P a W K Q


/-- The walk in the order of the text: at each operation something that stays known is chosen. -/
def walk (S : World → World → Prop) (P : Program) (ops : Array Oper) (n : Nat) (w0 : World) (a0 : Act) (T : List Know → Prop) : List Know → List Oper → Prop
  | Γ, [] => T Γ
  | Γ, o :: l => ∃ R, Stable S R ∧ GOK ops Γ o ∧ (dst ops Γ.length = o.dst → Ob S P ops n w0 a0 Γ o R) ∧ walk S P ops n w0 a0 T (Γ ++ [R]) l


theorem walk_all {n : Nat} {w0 : World} {a0 : Act} {T : List Know → Prop} : ∀ (l : List Oper) (Γ : List Know), walk S P ops n w0 a0 T Γ l →
    ∃ Δ : List Know, Δ.length = l.length ∧ T (Γ ++ Δ) ∧ ∀ k o, l[k]? = some o → ∃ R, Δ[k]? = some R ∧ Stable S R ∧ GOK ops (Γ ++ Δ.take k) o ∧ (dst ops (Γ.length + k) = o.dst → Ob S P ops n w0 a0 (Γ ++ Δ.take k) o R)
  | [], Γ, h => ⟨[], rfl, by simpa [walk] using h, fun k o hk => by simp at hk⟩
  | o :: l, Γ, h => by
    obtain ⟨R, hs, hg, hob, hw⟩ := h
    obtain ⟨Δ, hl, hT, hall⟩ := walk_all l _ hw
    refine ⟨R :: Δ, by simp [hl], by simpa using hT, fun k o' hk => ?_⟩
    cases k with
    | zero =>
      obtain rfl : o = o' := by simpa using hk
      exact ⟨R, rfl, hs, by simpa using hg, by simpa using hob⟩
    | succ k =>
      obtain ⟨R', h1, h2, h3, h4⟩ := hall k o' (by simpa using hk)
      refine ⟨R', by simpa using h1, h2, by simpa using h3, fun hd => ?_⟩
      have := h4 (by rw [← hd]; congr 1; simp; omega)
      simpa using this

theorem Ob.mono {n : Nat} {w0 : World} {a0 : Act} {Γ Δ : List Know} {o : Oper} {R : Know} (h : Ob S P ops n w0 a0 Γ o R) (hsub : ∀ e ∈ o.after, ∀ K, Γ[e.on]? = some K → Δ[e.on]? = some K) : Ob S P ops n w0 a0 Δ o R :=
  fun a W hb hz hd hbase K Q hK => h a W hb hz (fun e he hbd t ht K' hK' => hd e he hbd t ht K' (hsub e he K' hK')) hbase K Q hK

/-- What holds while the head is on its way. -/
structure Inv (S : World → World → Prop) (ops : Array Oper) (n : Nat) (w0 : World) (a0 : Act) (Γ : List Know) (listed : Array Bool) (a : Act) (W : World) : Prop where
  below : S w0 W
  vals : ∃ x : Nat → Value, a = puts ops x (fun j => listed.getD j false) (List.range n) a0 ∧ ∀ j, j < n → listed.getD j false = true → ∀ K, Γ[j]? = some K → K (x j) W


theorem go (ht' : ∀ a b c, S a b → S b c → S a c) {n : Nat} {Q : Exit → Act → World → Prop} {w0 : World} {a0 : Act} {Γ : List Know} (hok : okB ops n = true) (hsz : sizeB ops n a0.tmps.size = true)
    (hΓ : ∀ k, k < n → ∃ o R, ops[k]? = some o ∧ Γ[k]? = some R ∧ Stable S R ∧ GOK ops Γ o ∧ Ob S P ops n w0 a0 Γ o R)
    (hend : ∀ (x : Nat → Value) (W : World), S w0 W → (∀ j, j < n → ∀ K, Γ[j]? = some K → K (x j) W) → wpAny P .any ops Q (ops.size - n) (Ln n ops.size) (puts ops x (fun _ => true) (List.range n) a0) W) :
    ∀ (f : Nat) (listed : Array Bool) (a : Act) (W : World), HeadInv .any ops n listed → left n listed = f → Inv S ops n w0 a0 Γ listed a W → wpAny P .any ops Q (f + (ops.size - n)) listed a W := by
  simp only [okB, Bool.and_eq_true, decide_eq_true_eq] at hok
  obtain ⟨⟨⟨⟨⟨hn, hs⟩, hc⟩, _⟩, hap⟩, hback⟩ := hok
  have hap := apart_of hap
  intro f
  induction f with
  | zero =>
    intro listed a W inv hl hI
    obtain ⟨hb, x, rfl, hx⟩ := hI
    have hall := all_listed hl
    rw [Nat.zero_add]
    rw [puts_agree (p' := fun _ => true) (x' := x) (List.range n) a0 (fun j hj => ⟨hall j (List.mem_range.1 hj), fun _ => rfl⟩), listed_Ln inv hl (by omega)]
    exact hend x W hb (fun j hj K hK => hx j hj (hall j hj) K hK)
  | succ f ih =>
    intro listed a W inv hl hI
    have hex : ∃ k, k < n ∧ listed.getD k true = false := by
      apply Classical.byContradiction
      intro hno
      have : left n listed = 0 := List.countP_eq_zero.2 (fun j hj => by
        have hj := List.mem_range.1 hj
        have hjs : j < listed.size := by rw [inv.size]; omega
        cases h : listed.getD j false with
        | true => simp
        | false => exact absurd ⟨j, hj, getD_in hjs h⟩ hno)
      omega
    obtain ⟨k, hk, hun⟩ := hex
    rw [show f + 1 + (ops.size - n) = (f + (ops.size - n)) + 1 by omega]
    refine ⟨fun h0 => ?_, fun i hi => ?_⟩
    · obtain ⟨i, hi⟩ := some_ready inv hback hn (k + 1) k (by omega) hk hun
      rw [h0] at hi
      cases hi
    have hin : i < n := by
      rcases Nat.lt_or_ge i n with h | h
      · exact h
      · exact absurd hi (tail_waits hs hc hn inv _ k rfl hk hun i h)
    obtain ⟨hiun, oi, hoi, hdeps⟩ := mem_ready.1 hi
    obtain ⟨o, R, ho, hR, hst, hg, hob⟩ := hΓ i hin
    obtain rfl : oi = o := Option.some.inj (hoi.symm.trans ho)
    obtain ⟨hb, x, rfl, hx⟩ := hI
    have hdi : dst ops i = oi.dst := by simp [dst, ho]
    have his : i < listed.size := by rw [inv.size]; omega
    have hif : listed.getD i false = false := getD_both hiun
    have hszt : ∀ j t, j < n → dst ops j = some t → t < a0.tmps.size := fun j t hj hd => by
      have := List.all_eq_true.1 hsz j (List.mem_range.2 hj)
      simpa [hd] using this
    have back : ∀ e ∈ oi.after, Region.binds .any e = true → e.on < i := fun e he hbd => by
      have h1 := List.all_eq_true.1 hback i (List.mem_range.2 (by omega))
      simp only [ho] at h1
      simpa [hbd] using Array.all_eq_true'.1 h1 e he
    unfold wpOp
    simp only [ho]
    have hwant : Region.wanted oi (yielded ops (puts ops x (fun j => listed.getD j false) (List.range n) a0).tmps) = true := by
      rcases hg with hg | ⟨g, b, t, hg, ⟨e, he, hbd, rfl⟩, hd, hK⟩
      · simp [Region.wanted, hg]
      · have hel := hdeps e he hbd
        have hen : e.on < n := by have := back e he hbd; omega
        have h1 := puts_here (x := x) (p := fun j => listed.getD j false) hap hen hel hd (List.range n) a0 (List.nodup_range) (List.mem_range.2 hen) (fun j hj => List.mem_range.1 hj) (hszt _ _ hen hd)
        have h2 : x e.on = .bool b := hx e.on hen hel _ hK
        have h3 : t < (puts ops x (fun j => listed.getD j false) (List.range n) a0).tmps.size := by rw [puts_size]; exact hszt _ _ hen hd
        rw [h2] at h1
        exact wanted_of hg hd h1 h3
    rw [if_pos hwant]
    refine .inl (hob _ W hb (puts_size _ _) ?_ ?_ _ _ ?_)
    · intro e he hbd t ht K hK
      have hel := hdeps e he hbd
      have hen : e.on < n := by have := back e he hbd; omega
      rw [puts_here hap hen hel ht (List.range n) a0 (List.nodup_range) (List.mem_range.2 hen) (fun j hj => List.mem_range.1 hj) (hszt _ _ hen ht)]
      exact hx e.on hen hel K hK
    · intro t ht
      exact puts_other _ _ (fun j hj => ht j (List.mem_range.1 hj))
    · intro v W' hv hb'
      have hget : ∀ j, (listed.setIfInBounds i true).getD j false = upd (fun j => listed.getD j false) i true j := by
        intro j
        by_cases hji : j = i
        · subst hji
          simp [upd, his]
        · rw [getD_set_ne false (Ne.symm hji)]
          simp [upd, hji]
      refine ih _ _ W' (inv.set hi hin) ?_ ⟨ht' _ _ _ hb hb', upd x i v, ?_, ?_⟩
      · have h1 := countP_upd (i := i) (p := fun j => !listed.getD j false) (by simp [hif]) (List.range n) List.nodup_range (List.mem_range.2 hin)
        have h2 : left n (listed.setIfInBounds i true) = (List.range n).countP (upd (fun j => !listed.getD j false) i false) := by
          unfold left
          congr 1
          funext j
          rw [hget j]
          by_cases hji : j = i <;> simp [upd, hji]
        unfold left at hl
        omega
      · rw [← hdi, puts_new hap hin hif (List.range n) a0 List.nodup_range (List.mem_range.2 hin) (fun j hj => List.mem_range.1 hj)]
        exact puts_agree _ _ (fun j _ => ⟨(hget j).symm, fun _ => rfl⟩)
      · intro j hj hlj K hK
        rw [hget j] at hlj
        by_cases hji : j = i
        · subst hji
          obtain rfl : R = K := Option.some.inj (hR.symm.trans hK)
          simpa [upd] using hv
        · have e1 : upd x i v j = x j := by simp [upd, hji]
          have e2 : listed.getD j false = true := by simpa [upd, hji] using hlj
          rw [e1]
          obtain ⟨_, R', _, hR', hst', _⟩ := hΓ j hj
          obtain rfl : R' = K := Option.some.inj (hR'.symm.trans hK)
          exact hst' _ _ _ (hx j hj e2 _ hK) hb'

/-- The frame with all values of the head. -/
def fill : List Oper → Nat → (Nat → Value) → Act → Act
  | [], _, _, a => a
  | o :: l, k, x, a => fill l (k + 1) x (a.put o.dst (x k))
theorem fill_puts {x : Nat → Value} : ∀ (l : List Oper) (k : Nat) (a : Act), (∀ j, j < l.length → l[j]? = ops[k + j]?) → fill l k x a = puts ops x (fun _ => true) (List.range' k l.length) a
  | [], _, _, _ => rfl
  | o :: l, k, a, h => by
    have h0 : ops[k]? = some o := by simpa using (h 0 (by simp)).symm
    have hd : dst ops k = o.dst := by simp [dst, h0]
    simp only [fill, List.length_cons, List.range'_succ, puts, if_true, hd]
    exact fill_puts l (k + 1) _ (fun j hj => by have := h (j + 1) (by simp; omega); simpa [Nat.add_assoc, Nat.add_comm 1 j] using this)

/-- ████ The region. -/
theorem region (ht' : ∀ a b c, S a b → S b c → S a c) (hdr : ∀ W, S W { W with drawn := W.drawn + 1 }) {id : Nat} {Q : Exit → Act → World → Prop} {a : Act} {w : World} {l : List Oper} (n : Nat) (hm : P.follows .mixedOrders = true) (hok : okB l.toArray n = true) (hsz : sizeB l.toArray n a.tmps.size = true)
    (h : walk S P l.toArray n w a (fun (Γ : List Know) => ∀ (x : Nat → Value) (W : World), S w W → (∀ (j : Nat) (K : Know), Γ[j]? = some K → K (x j) W) → wpList P l.toArray Q (l.drop n) (fill (l.take n) 0 x a) W) [] (l.take n)) :
    (Code.region id l.toArray true).wp P Q a w := by
  have hok' := hok
  simp only [okB, Bool.and_eq_true, decide_eq_true_eq] at hok'
  obtain ⟨⟨⟨⟨⟨hn, _⟩, _⟩, hseq⟩, _⟩, hback⟩ := hok'
  have hn' : n < l.length := by simpa using hn
  have htl : (l.take n).length = n := by simp; omega
  obtain ⟨Δ, hlen, hT, hall⟩ := walk_all _ _ h
  rw [List.nil_append] at hT
  rw [htl] at hlen
  have hget : ∀ k, k < n → (l.take n)[k]? = l.toArray[k]? := fun k hk => by simp [List.getElem?_take, hk]
  have hΓ : ∀ k, k < n → ∃ o R, l.toArray[k]? = some o ∧ Δ[k]? = some R ∧ Stable S R ∧ GOK l.toArray Δ o ∧ Ob S P l.toArray n w a Δ o R := by
    intro k hk
    obtain ⟨o, ho⟩ : ∃ o, l.toArray[k]? = some o := ⟨_, Array.getElem?_eq_getElem (by simp; omega)⟩
    obtain ⟨R, h1, h2, h3, h4⟩ := hall k o (by rw [hget k hk, ho])
    rw [List.nil_append] at h3
    refine ⟨o, R, ho, h1, h2, h3.mono (fun g K hK => by
      rw [List.getElem?_take] at hK
      split at hK
      · exact hK
      · cases hK), (h4 (by simp only [List.length_nil, Nat.zero_add]; simp [dst, ho])).mono fun e he K hK => ?_⟩
    rw [List.nil_append] at hK
    rw [List.getElem?_take] at hK
    split at hK
    · exact hK
    · cases hK
  have inv0 : HeadInv .any l.toArray n (Array.replicate l.toArray.size false) :=
    ⟨by simp, fun j oj _ hl => (by rw [getD_replicate_false] at hl; cases hl), fun t _ ht => getD_in (by simpa using ht) (getD_replicate_false _ _)⟩
  have hleft : left n (Array.replicate l.toArray.size false) = n := by
    unfold left
    rw [List.countP_eq_length.2 (fun j _ => by rw [getD_replicate_false]; rfl), List.length_range]
  have hputs : ∀ x, puts l.toArray x (fun _ => true) (List.range n) a = fill (l.take n) 0 x a := fun x => by
    rw [fill_puts (ops := l.toArray) (l.take n) 0 a (fun j hj => by rw [htl] at hj; rw [hget j hj, Nat.zero_add]), htl, List.range_eq_range']
  have H := go ht' (P := P) (Q := Q) (w0 := w) (a0 := a) hok hsz hΓ (fun x W hb hx => by
    have hdl : (l.drop n).length = l.toArray.size - n := by simp
    have := wpAny_of_seq (md := .any) (Q' := Q) (ops := l.toArray) (P := P) (l.drop n) n (Ln n l.toArray.size) (fill (l.take n) 0 x a) W (fun j => by simp [List.getElem?_drop]) (by rw [hdl]; exact hseq)
      (hT x W hb (fun j K hK => hx j (by
        have := (List.getElem?_eq_some_iff.1 hK).1
        omega) K hK))
    rw [hputs x, ← hdl]
    exact this) n _ a { w with drawn := w.drawn + 1 } inv0 hleft ⟨hdr w, fun _ => undef, by
      rw [puts_agree (p' := fun _ => false) (x' := fun _ => undef) (List.range n) a (fun j _ => ⟨getD_replicate_false _ _, fun _ => rfl⟩)]
      exact (show ∀ (L : List Nat) (b : Act), b = puts l.toArray (fun _ => undef) (fun _ => false) L b from fun L => by
        induction L with
        | nil => intro b; rfl
        | cons j L ih => intro b; unfold puts; simpa using ih b) _ _, fun j _ hl => by rw [getD_replicate_false] at hl; cases hl⟩
  refine wp_region_any hm ?_
  have e : n + (l.toArray.size - n) = l.toArray.size := by omega
  rw [e] at H
  exact H

end

def Ob3 (S : World → World → Prop) (P : Program) (DS : List Tmp) (w0 : World) (a0 : Act) (Γ : Ctx) (o : Oper) (R : Know) : Prop :=
  ∀ (a : Act) (W : World), S w0 W → deps Γ a W (ons o) → (∀ t, t ∉ DS → a.eval (.tmp t) = a0.eval (.tmp t)) →
    ∀ (K : Act → World → Prop) (Q : Exit → Act → World → Prop), (∀ v W', R v W' → S W W' → K (a.put o.dst v) W') → o.wp P a W K Q

def walk3 (S : World → World → Prop) (P : Program) (DS : List Tmp) (w0 : World) (a0 : Act) (T : Ctx → Prop) : Ctx → List Oper → Prop
  | Γ, [] => T Γ
  | Γ, o :: l => ∃ R, Stable S R ∧ GOK3 Γ o ∧ Ob3 S P DS w0 a0 Γ o R ∧ walk3 S P DS w0 a0 T (Γ ++ [(o.dst, R)]) l
theorem walk_of_walk3 {S : World → World → Prop} {P : Program} {ops : Array Oper} {n : Nat} {DS : List Tmp} {w0 : World} {a0 : Act} {T : Ctx → Prop} {T' : List Know → Prop} (hDS : ∀ t, t ∉ DS → ∀ j, j < n → dst ops j ≠ some t)
    (hT : ∀ Γ, T Γ → T' (Γ.map (·.2))) :
    ∀ (l : List Oper) (Γ : Ctx), (∀ j, j < l.length → l[j]? = ops[Γ.length + j]?) → (∀ j d R, Γ[j]? = some (d, R) → dst ops j = d) → walk3 S P DS w0 a0 T Γ l → walk S P ops n w0 a0 T' (Γ.map (·.2)) l
  | [], Γ, _, _, h => hT Γ h
  | o :: l, Γ, hl, hΓ, h => by
    obtain ⟨R, hs, hg, hob, hw⟩ := h
    have h0 : ops[Γ.length]? = some o := by simpa using (hl 0 (by simp)).symm
    have hg' : GOK ops (Γ.map (·.2)) o := by
      rcases hg with hg | ⟨g, b, t, hg, hin, hΓg⟩
      · exact .inl hg
      · obtain ⟨e, he, rfl⟩ := List.mem_map.1 hin
        obtain ⟨he1, he2⟩ := List.mem_filter.1 he
        exact .inr ⟨e.on, b, t, hg, ⟨e, by simpa using he1, he2, rfl⟩, hΓ _ _ _ hΓg, by simp [hΓg]⟩
    refine ⟨R, hs, hg', fun _ => ?_, ?_⟩
    · intro a W hb hz hd hbase K Q hK
      refine hob a W hb (deps_of _ fun j hj => ?_) (fun t ht => hbase t (fun j hj => hDS t ht j hj)) K Q hK
      obtain ⟨e, he, rfl⟩ := List.mem_map.1 hj
      obtain ⟨he1, he2⟩ := List.mem_filter.1 he
      have he' : e ∈ o.after := by simpa using he1
      cases hc : Γ[e.on]? with
      | none => trivial
      | some c =>
        obtain ⟨d, K'⟩ := c
        cases d with
        | none => trivial
        | some t => exact hd e he' he2 t (hΓ _ _ _ hc) K' (by simp [hc])
    · have := walk_of_walk3 hDS hT l (Γ ++ [(o.dst, R)]) (fun j hj => by
        have := hl (j + 1) (by simp; omega)
        simpa [Nat.add_assoc, Nat.add_comm 1 j] using this) (fun j d R' hj => by
        rcases Nat.lt_or_ge j Γ.length with h | h
        · rw [List.getElem?_append_left h] at hj
          exact hΓ j d R' hj
        · have hjl : j < (Γ ++ [(o.dst, R)]).length := (List.getElem?_eq_some_iff.1 hj).1
          obtain rfl : j = Γ.length := by simp at hjl; omega
          simp at hj
          rw [← hj.1]
          simp [dst, h0]) hw
      simpa using this

theorem region3 {S : World → World → Prop} (ht' : ∀ a b c, S a b → S b c → S a c) (hdr : ∀ W, S W { W with drawn := W.drawn + 1 }) {P : Program} {id : Nat} {Q : Exit → Act → World → Prop} {a : Act} {w : World} {l : List Oper} (n : Nat) (hm : P.follows .mixedOrders = true) (hok : okB l.toArray n = true) (hsz : sizeB l.toArray n a.tmps.size = true)
    (h : walk3 S P ((l.take n).filterMap (·.dst)) w a (fun Γ => ∀ (x : Nat → Value) (W : World), S w W → facts x W 0 Γ → wpList P l.toArray Q (l.drop n) (fill (l.take n) 0 x a) W) [] (l.take n)) :
    (Code.region id l.toArray true).wp P Q a w := by
  have hn' : n < l.length := by
    simp only [okB, Bool.and_eq_true, decide_eq_true_eq] at hok
    simpa using hok.1.1.1.1.1
  have htl : (l.take n).length = n := by simp; omega
  refine region ht' hdr n hm hok hsz (walk_of_walk3 (n := n) (fun t ht j hj hd => ht ?_) (fun Γ hT x W hb hx => hT x W hb (facts_of Γ 0 (fun j K hj => by rw [Nat.zero_add]; exact hx j K hj))) (l.take n) [] (fun j hj => by
      rw [htl] at hj
      simp [List.getElem?_take, hj]) (fun j d R hj => by simp at hj) h)
  have hlj : j < l.length := by omega
  simp [dst, hlj] at hd
  exact List.mem_filterMap.2 ⟨l[j], List.mem_iff_getElem.2 ⟨j, by omega, by simp⟩, hd⟩
section
variable {S : World → World → Prop} {P : Program} {DS : List Tmp} {w0 : World} {a0 : Act} {T : Ctx → Prop} {Γ : Ctx} {o : Oper} {rest : List Oper}

theorem op3 (hr : ∀ W, S W W) (v : Value) (hg : GOK3 Γ o) (h : ∀ (a : Act) (W : World), S w0 W → deps Γ a W (ons o) → (∀ t, t ∉ DS → a.eval (.tmp t) = a0.eval (.tmp t)) → (execOp a.eval o).run P W = .ok (.value v) W)
    (hn : walk3 S P DS w0 a0 T (Γ ++ [(o.dst, fun u _ => u = v)]) rest) : walk3 S P DS w0 a0 T Γ (o :: rest) :=
  ⟨_, fun _ _ _ h _ => h, hg, fun a W hb hd hbase K Q hK => by
    unfold Oper.wp
    rw [h a W hb hd hbase]
    exact hK v W rfl (hr W), hn⟩
/-- An operation that stores: what it does to the world is along S. -/
theorem store3 (R : World → Prop) (hs : ∀ W W', R W → S W W' → R W') (hg : GOK3 Γ o)
    (h : ∀ (a : Act) (W : World), S w0 W → deps Γ a W (ons o) → (∀ t, t ∉ DS → a.eval (.tmp t) = a0.eval (.tmp t)) → ∃ W', (execOp a.eval o).run P W = .ok .skip W' ∧ R W' ∧ S W W')
    (hn : walk3 S P DS w0 a0 T (Γ ++ [(o.dst, fun _ W => R W)]) rest) : walk3 S P DS w0 a0 T Γ (o :: rest) :=
  ⟨fun _ W => R W, fun _ W W' h hS => hs W W' h hS, hg, fun a W hb hd hbase K Q hK => by
    obtain ⟨W', hrun, hR, hS⟩ := h a W hb hd hbase
    unfold Oper.wp
    rw [hrun]
    exact hK undef W' hR hS, hn⟩
theorem done3 (h : T Γ) : walk3 S P DS w0 a0 T Γ [] := h
end
end Go.Proofs.YtpkldjlljoledaaDoor.RelG

/- RelG where each operation that is still to come has a class of worlds of its own: for a load of a cell that a later store of the same head (which waits for the load) turns. -/
namespace Go.Proofs.YtpkldjlljoledaaDoor.RelT
open Go.RowKit
open RelG (Stable fill fill_puts)
open Rel (Know dst puts upd puts_agree puts_put Apart apart_of puts_new put_size puts_size puts_other eval_put_same puts_here wanted_of GOK countP_upd left Ln okB sizeB all_listed listed_Ln some_ready Ctx dep1 deps deps_of facts facts_of ons GOK3)

/-- what an operation waits for, directly or through others. -/
def befOK (ops : Array Oper) (n : Nat) (B : Nat → List Nat) : Bool := (List.range n).all fun i => (B i).all fun j => match ops[i]? with
  | some o => o.after.any fun e => Region.binds .any e && (e.on == j || (decide (e.on < i) && (B e.on).contains j))
  | none => false
theorem bef_listed {ops : Array Oper} {n : Nat} {B : Nat → List Nat} (hB : befOK ops n B = true) {listed : Array Bool} (inv : HeadInv .any ops n listed) : ∀ (i : Nat), i < n → (∀ o, ops[i]? = some o → ∀ e ∈ o.after, Region.binds .any e = true → listed.getD e.on false = true) → ∀ j ∈ B i, listed.getD j false = true := by
  intro i
  induction i using Nat.strongRecOn with
  | ind i ih =>
    intro hi hdeps j hj
    have h1 := List.all_eq_true.1 (List.all_eq_true.1 hB i (List.mem_range.2 hi)) j hj
    cases ho : ops[i]? with
    | none => rw [ho] at h1; cases h1
    | some o =>
      rw [ho] at h1
      obtain ⟨e, he, h2⟩ := Array.any_eq_true'.1 h1
      rw [Bool.and_eq_true] at h2
      obtain ⟨h3, h4⟩ := h2
      have hel := hdeps o ho e he h3
      rcases Bool.or_eq_true _ _ |>.mp h4 with h5 | h5
      · rw [beq_iff_eq] at h5
        rw [← h5]; exact hel
      · rw [Bool.and_eq_true, decide_eq_true_eq] at h5
        exact ih e.on h5.1 (by omega) (fun o' ho' e' he' hb' => inv.closed e.on o' ho' hel e' he' hb') j (by simpa using h5.2)

section
variable {P : Program} {ops : Array Oper} {S : World → World → Prop} {C : Nat → World → Prop} {B : Nat → List Nat}

/-- What an operation of the head must show: wherever it comes up. -/
def Ob (S : World → World → Prop) (C : Nat → World → Prop) (B : Nat → List Nat) (P : Program) (ops : Array Oper) (n : Nat) (w0 : World) (a0 : Act) (Γ : List Know) (i : Nat) (o : Oper) (R : Know) : Prop :=
  ∀ (a : Act) (W : World), S w0 W → C i W → a.tmps.size = a0.tmps.size →
    (∀ e ∈ o.after, Region.binds .any e = true → ∀ t, dst ops e.on = some t → ∀ K, Γ[e.on]? = some K → K (a.eval (.tmp t)) W) →
    (∀ t, (∀ j, j < n → dst ops j ≠ some t) → a.eval (.tmp t) = a0.eval (.tmp t)) →
    ∀ (K : Act → World → Prop) (Q : Exit → Act → World → Prop), (∀ v W', R v W' → S W W' → (∀ j, j ∉ B i → C j W → C j W') → K (a.put o.dst v) W') → o.wp P a W K Q


/-- The walk in the order of the text: at each operation something that stays known is chosen. -/
def walk (S : World → World → Prop) (C : Nat → World → Prop) (B : Nat → List Nat) (P : Program) (ops : Array Oper) (n : Nat) (w0 : World) (a0 : Act) (T : List Know → Prop) : List Know → List Oper → Prop
  | Γ, [] => T Γ
  | Γ, o :: l => ∃ R, Stable S R ∧ GOK ops Γ o ∧ (dst ops Γ.length = o.dst → Ob S C B P ops n w0 a0 Γ Γ.length o R) ∧ walk S C B P ops n w0 a0 T (Γ ++ [R]) l


theorem walk_all {n : Nat} {w0 : World} {a0 : Act} {T : List Know → Prop} : ∀ (l : List Oper) (Γ : List Know), walk S C B P ops n w0 a0 T Γ l →
    ∃ Δ : List Know, Δ.length = l.length ∧ T (Γ ++ Δ) ∧ ∀ k o, l[k]? = some o → ∃ R, Δ[k]? = some R ∧ Stable S R ∧ GOK ops (Γ ++ Δ.take k) o ∧ (dst ops (Γ.length + k) = o.dst → Ob S C B P ops n w0 a0 (Γ ++ Δ.take k) (Γ.length + k) o R)
  | [], Γ, h => ⟨[], rfl, by simpa [walk] using h, fun k o hk => by simp at hk⟩
  | o :: l, Γ, h => by
    obtain ⟨R, hs, hg, hob, hw⟩ := h
    obtain ⟨Δ, hl, hT, hall⟩ := walk_all l _ hw
    refine ⟨R :: Δ, by simp [hl], by simpa using hT, fun k o' hk => ?_⟩
    cases k with
    | zero =>
      obtain rfl : o = o' := by simpa using hk
      exact ⟨R, rfl, hs, by simpa using hg, by simpa using hob⟩
    | succ k =>
      obtain ⟨R', h1, h2, h3, h4⟩ := hall k o' (by simpa using hk)
      refine ⟨R', by simpa using h1, h2, by simpa using h3, fun hd => ?_⟩
      have := h4 (by rw [← hd]; congr 1; simp; omega)
      have e : Γ.length + 1 + k = Γ.length + (k + 1) := by omega
      simpa [e] using this

theorem Ob.mono {n : Nat} {w0 : World} {a0 : Act} {Γ Δ : List Know} {o : Oper} {R : Know} {i : Nat} (h : Ob S C B P ops n w0 a0 Γ i o R) (hsub : ∀ e ∈ o.after, ∀ K, Γ[e.on]? = some K → Δ[e.on]? = some K) : Ob S C B P ops n w0 a0 Δ i o R :=
  fun a W hb hc hz hd hbase K Q hK => h a W hb hc hz (fun e he hbd t ht K' hK' => hd e he hbd t ht K' (hsub e he K' hK')) hbase K Q hK

/-- What holds while the head is on its way. -/
structure Inv (S : World → World → Prop) (C : Nat → World → Prop) (ops : Array Oper) (n : Nat) (w0 : World) (a0 : Act) (Γ : List Know) (listed : Array Bool) (a : Act) (W : World) : Prop where
  below : S w0 W
  come : ∀ j, j < n → listed.getD j false = false → C j W
  vals : ∃ x : Nat → Value, a = puts ops x (fun j => listed.getD j false) (List.range n) a0 ∧ ∀ j, j < n → listed.getD j false = true → ∀ K, Γ[j]? = some K → K (x j) W


theorem go (ht' : ∀ a b c, S a b → S b c → S a c) {n : Nat} {Q : Exit → Act → World → Prop} {w0 : World} {a0 : Act} {Γ : List Know} (hok : okB ops n = true) (hbef : befOK ops n B = true) (hsz : sizeB ops n a0.tmps.size = true)
    (hΓ : ∀ k, k < n → ∃ o R, ops[k]? = some o ∧ Γ[k]? = some R ∧ Stable S R ∧ GOK ops Γ o ∧ Ob S C B P ops n w0 a0 Γ k o R)
    (hend : ∀ (x : Nat → Value) (W : World), S w0 W → (∀ j, j < n → ∀ K, Γ[j]? = some K → K (x j) W) → wpAny P .any ops Q (ops.size - n) (Ln n ops.size) (puts ops x (fun _ => true) (List.range n) a0) W) :
    ∀ (f : Nat) (listed : Array Bool) (a : Act) (W : World), HeadInv .any ops n listed → left n listed = f → Inv S C ops n w0 a0 Γ listed a W → wpAny P .any ops Q (f + (ops.size - n)) listed a W := by
  simp only [okB, Bool.and_eq_true, decide_eq_true_eq] at hok
  obtain ⟨⟨⟨⟨⟨hn, hs⟩, hc⟩, _⟩, hap⟩, hback⟩ := hok
  have hap := apart_of hap
  intro f
  induction f with
  | zero =>
    intro listed a W inv hl hI
    obtain ⟨hb, hcm, x, rfl, hx⟩ := hI
    have hall := all_listed hl
    rw [Nat.zero_add]
    rw [puts_agree (p' := fun _ => true) (x' := x) (List.range n) a0 (fun j hj => ⟨hall j (List.mem_range.1 hj), fun _ => rfl⟩), listed_Ln inv hl (by omega)]
    exact hend x W hb (fun j hj K hK => hx j hj (hall j hj) K hK)
  | succ f ih =>
    intro listed a W inv hl hI
    have hex : ∃ k, k < n ∧ listed.getD k true = false := by
      apply Classical.byContradiction
      intro hno
      have : left n listed = 0 := List.countP_eq_zero.2 (fun j hj => by
        have hj := List.mem_range.1 hj
        have hjs : j < listed.size := by rw [inv.size]; omega
        cases h : listed.getD j false with
        | true => simp
        | false => exact absurd ⟨j, hj, getD_in hjs h⟩ hno)
      omega
    obtain ⟨k, hk, hun⟩ := hex
    rw [show f + 1 + (ops.size - n) = (f + (ops.size - n)) + 1 by omega]
    refine ⟨fun h0 => ?_, fun i hi => ?_⟩
    · obtain ⟨i, hi⟩ := some_ready inv hback hn (k + 1) k (by omega) hk hun
      rw [h0] at hi
      cases hi
    have hin : i < n := by
      rcases Nat.lt_or_ge i n with h | h
      · exact h
      · exact absurd hi (tail_waits hs hc hn inv _ k rfl hk hun i h)
    obtain ⟨hiun, oi, hoi, hdeps⟩ := mem_ready.1 hi
    obtain ⟨o, R, ho, hR, hst, hg, hob⟩ := hΓ i hin
    obtain rfl : oi = o := Option.some.inj (hoi.symm.trans ho)
    obtain ⟨hb, hcm, x, rfl, hx⟩ := hI
    have hdi : dst ops i = oi.dst := by simp [dst, ho]
    have his : i < listed.size := by rw [inv.size]; omega
    have hif : listed.getD i false = false := getD_both hiun
    have hszt : ∀ j t, j < n → dst ops j = some t → t < a0.tmps.size := fun j t hj hd => by
      have := List.all_eq_true.1 hsz j (List.mem_range.2 hj)
      simpa [hd] using this
    have back : ∀ e ∈ oi.after, Region.binds .any e = true → e.on < i := fun e he hbd => by
      have h1 := List.all_eq_true.1 hback i (List.mem_range.2 (by omega))
      simp only [ho] at h1
      simpa [hbd] using Array.all_eq_true'.1 h1 e he
    unfold wpOp
    simp only [ho]
    have hwant : Region.wanted oi (yielded ops (puts ops x (fun j => listed.getD j false) (List.range n) a0).tmps) = true := by
      rcases hg with hg | ⟨g, b, t, hg, ⟨e, he, hbd, rfl⟩, hd, hK⟩
      · simp [Region.wanted, hg]
      · have hel := hdeps e he hbd
        have hen : e.on < n := by have := back e he hbd; omega
        have h1 := puts_here (x := x) (p := fun j => listed.getD j false) hap hen hel hd (List.range n) a0 (List.nodup_range) (List.mem_range.2 hen) (fun j hj => List.mem_range.1 hj) (hszt _ _ hen hd)
        have h2 : x e.on = .bool b := hx e.on hen hel _ hK
        have h3 : t < (puts ops x (fun j => listed.getD j false) (List.range n) a0).tmps.size := by rw [puts_size]; exact hszt _ _ hen hd
        rw [h2] at h1
        exact wanted_of hg hd h1 h3
    rw [if_pos hwant]
    refine .inl (hob _ W hb (hcm i hin hif) (puts_size _ _) ?_ ?_ _ _ ?_)
    · intro e he hbd t ht K hK
      have hel := hdeps e he hbd
      have hen : e.on < n := by have := back e he hbd; omega
      rw [puts_here hap hen hel ht (List.range n) a0 (List.nodup_range) (List.mem_range.2 hen) (fun j hj => List.mem_range.1 hj) (hszt _ _ hen ht)]
      exact hx e.on hen hel K hK
    · intro t ht
      exact puts_other _ _ (fun j hj => ht j (List.mem_range.1 hj))
    · intro v W' hv hb' hcome
      have hget : ∀ j, (listed.setIfInBounds i true).getD j false = upd (fun j => listed.getD j false) i true j := by
        intro j
        by_cases hji : j = i
        · subst hji
          simp [upd, his]
        · rw [getD_set_ne false (Ne.symm hji)]
          simp [upd, hji]
      refine ih _ _ W' (inv.set hi hin) ?_ ⟨ht' _ _ _ hb hb', ?_, upd x i v, ?_, ?_⟩
      · have h1 := countP_upd (i := i) (p := fun j => !listed.getD j false) (by simp [hif]) (List.range n) List.nodup_range (List.mem_range.2 hin)
        have h2 : left n (listed.setIfInBounds i true) = (List.range n).countP (upd (fun j => !listed.getD j false) i false) := by
          unfold left
          congr 1
          funext j
          rw [hget j]
          by_cases hji : j = i <;> simp [upd, hji]
        unfold left at hl
        omega
      · intro j hj hlj
        rw [hget j] at hlj
        by_cases hji : j = i
        · subst hji; simp [upd] at hlj
        · have e2 : listed.getD j false = false := by simpa [upd, hji] using hlj
          refine hcome j (fun hm => ?_) (hcm j hj e2)
          have := bef_listed hbef inv i hin (fun o' ho' e he hbd => by
            obtain rfl : oi = o' := Option.some.inj (hoi.symm.trans ho')
            exact hdeps e he hbd) j hm
          rw [e2] at this; cases this
      · rw [← hdi, puts_new hap hin hif (List.range n) a0 List.nodup_range (List.mem_range.2 hin) (fun j hj => List.mem_range.1 hj)]
        exact puts_agree _ _ (fun j _ => ⟨(hget j).symm, fun _ => rfl⟩)
      · intro j hj hlj K hK
        rw [hget j] at hlj
        by_cases hji : j = i
        · subst hji
          obtain rfl : R = K := Option.some.inj (hR.symm.trans hK)
          simpa [upd] using hv
        · have e1 : upd x i v j = x j := by simp [upd, hji]
          have e2 : listed.getD j false = true := by simpa [upd, hji] using hlj
          rw [e1]
          obtain ⟨_, R', _, hR', hst', _⟩ := hΓ j hj
          obtain rfl : R' = K := Option.some.inj (hR'.symm.trans hK)
          exact hst' _ _ _ (hx j hj e2 _ hK) hb'

/-- ████ The region. -/
theorem region {w : World} (hC0 : ∀ j, C j { w with drawn := w.drawn + 1 }) (ht' : ∀ a b c, S a b → S b c → S a c) (hdr : ∀ W, S W { W with drawn := W.drawn + 1 }) {id : Nat} {Q : Exit → Act → World → Prop} {a : Act} {l : List Oper} (n : Nat) (hm : P.follows .mixedOrders = true) (hok : okB l.toArray n = true) (hbef : befOK l.toArray n B = true) (hsz : sizeB l.toArray n a.tmps.size = true)
    (h : walk S C B P l.toArray n w a (fun (Γ : List Know) => ∀ (x : Nat → Value) (W : World), S w W → (∀ (j : Nat) (K : Know), Γ[j]? = some K → K (x j) W) → wpList P l.toArray Q (l.drop n) (fill (l.take n) 0 x a) W) [] (l.take n)) :
    (Code.region id l.toArray true).wp P Q a w := by
  have hok' := hok
  simp only [okB, Bool.and_eq_true, decide_eq_true_eq] at hok'
  obtain ⟨⟨⟨⟨⟨hn, _⟩, _⟩, hseq⟩, _⟩, hback⟩ := hok'
  have hn' : n < l.length := by simpa using hn
  have htl : (l.take n).length = n := by simp; omega
  obtain ⟨Δ, hlen, hT, hall⟩ := walk_all _ _ h
  rw [List.nil_append] at hT
  rw [htl] at hlen
  have hget : ∀ k, k < n → (l.take n)[k]? = l.toArray[k]? := fun k hk => by simp [List.getElem?_take, hk]
  have hΓ : ∀ k, k < n → ∃ o R, l.toArray[k]? = some o ∧ Δ[k]? = some R ∧ Stable S R ∧ GOK l.toArray Δ o ∧ Ob S C B P l.toArray n w a Δ k o R := by
    intro k hk
    obtain ⟨o, ho⟩ : ∃ o, l.toArray[k]? = some o := ⟨_, Array.getElem?_eq_getElem (by simp; omega)⟩
    obtain ⟨R, h1, h2, h3, h4⟩ := hall k o (by rw [hget k hk, ho])
    rw [List.nil_append] at h3
    refine ⟨o, R, ho, h1, h2, h3.mono (fun g K hK => by
      rw [List.getElem?_take] at hK
      split at hK
      · exact hK
      · cases hK), (by have := h4 (by simp only [List.length_nil, Nat.zero_add]; simp [dst, ho]); rwa [show ([] : List Know).length + k = k by simp] at this : Ob S C B P l.toArray n w a _ k o R).mono fun e he K hK => ?_⟩
    rw [List.nil_append] at hK
    rw [List.getElem?_take] at hK
    split at hK
    · exact hK
    · cases hK
  have inv0 : HeadInv .any l.toArray n (Array.replicate l.toArray.size false) :=
    ⟨by simp, fun j oj _ hl => (by rw [getD_replicate_false] at hl; cases hl), fun t _ ht => getD_in (by simpa using ht) (getD_replicate_false _ _)⟩
  have hleft : left n (Array.replicate l.toArray.size false) = n := by
    unfold left
    rw [List.countP_eq_length.2 (fun j _ => by rw [getD_replicate_false]; rfl), List.length_range]
  have hputs : ∀ x, puts l.toArray x (fun _ => true) (List.range n) a = fill (l.take n) 0 x a := fun x => by
    rw [fill_puts (ops := l.toArray) (l.take n) 0 a (fun j hj => by rw [htl] at hj; rw [hget j hj, Nat.zero_add]), htl, List.range_eq_range']
  have H := go (C := C) (B := B) ht' (P := P) (Q := Q) (w0 := w) (a0 := a) hok hbef hsz hΓ (fun x W hb hx => by
    have hdl : (l.drop n).length = l.toArray.size - n := by simp
    have := wpAny_of_seq (md := .any) (Q' := Q) (ops := l.toArray) (P := P) (l.drop n) n (Ln n l.toArray.size) (fill (l.take n) 0 x a) W (fun j => by simp [List.getElem?_drop]) (by rw [hdl]; exact hseq)
      (hT x W hb (fun j K hK => hx j (by
        have := (List.getElem?_eq_some_iff.1 hK).1
        omega) K hK))
    rw [hputs x, ← hdl]
    exact this) n _ a { w with drawn := w.drawn + 1 } inv0 hleft ⟨hdr w, fun j _ _ => hC0 j, fun _ => undef, by
      rw [puts_agree (p' := fun _ => false) (x' := fun _ => undef) (List.range n) a (fun j _ => ⟨getD_replicate_false _ _, fun _ => rfl⟩)]
      exact (show ∀ (L : List Nat) (b : Act), b = puts l.toArray (fun _ => undef) (fun _ => false) L b from fun L => by
        induction L with
        | nil => intro b; rfl
        | cons j L ih => intro b; unfold puts; simpa using ih b) _ _, fun j _ hl => by rw [getD_replicate_false] at hl; cases hl⟩
  refine wp_region_any hm ?_
  have e : n + (l.toArray.size - n) = l.toArray.size := by omega
  rw [e] at H
  exact H

end

def Ob3 (S : World → World → Prop) (C : Nat → World → Prop) (B : Nat → List Nat) (P : Program) (DS : List Tmp) (w0 : World) (a0 : Act) (Γ : Ctx) (o : Oper) (R : Know) : Prop :=
  ∀ (a : Act) (W : World), S w0 W → C Γ.length W → deps Γ a W (ons o) → (∀ t, t ∉ DS → a.eval (.tmp t) = a0.eval (.tmp t)) →
    ∀ (K : Act → World → Prop) (Q : Exit → Act → World → Prop), (∀ v W', R v W' → S W W' → (∀ j, j ∉ B Γ.length → C j W → C j W') → K (a.put o.dst v) W') → o.wp P a W K Q

def walk3 (S : World → World → Prop) (C : Nat → World → Prop) (B : Nat → List Nat) (P : Program) (DS : List Tmp) (w0 : World) (a0 : Act) (T : Ctx → Prop) : Ctx → List Oper → Prop
  | Γ, [] => T Γ
  | Γ, o :: l => ∃ R, Stable S R ∧ GOK3 Γ o ∧ Ob3 S C B P DS w0 a0 Γ o R ∧ walk3 S C B P DS w0 a0 T (Γ ++ [(o.dst, R)]) l
theorem walk_of_walk3 {S : World → World → Prop} {C : Nat → World → Prop} {B : Nat → List Nat} {P : Program} {ops : Array Oper} {n : Nat} {DS : List Tmp} {w0 : World} {a0 : Act} {T : Ctx → Prop} {T' : List Know → Prop} (hDS : ∀ t, t ∉ DS → ∀ j, j < n → dst ops j ≠ some t)
    (hT : ∀ Γ, T Γ → T' (Γ.map (·.2))) :
    ∀ (l : List Oper) (Γ : Ctx), (∀ j, j < l.length → l[j]? = ops[Γ.length + j]?) → (∀ j d R, Γ[j]? = some (d, R) → dst ops j = d) → walk3 S C B P DS w0 a0 T Γ l → walk S C B P ops n w0 a0 T' (Γ.map (·.2)) l
  | [], Γ, _, _, h => hT Γ h
  | o :: l, Γ, hl, hΓ, h => by
    obtain ⟨R, hs, hg, hob, hw⟩ := h
    have h0 : ops[Γ.length]? = some o := by simpa using (hl 0 (by simp)).symm
    have hg' : GOK ops (Γ.map (·.2)) o := by
      rcases hg with hg | ⟨g, b, t, hg, hin, hΓg⟩
      · exact .inl hg
      · obtain ⟨e, he, rfl⟩ := List.mem_map.1 hin
        obtain ⟨he1, he2⟩ := List.mem_filter.1 he
        exact .inr ⟨e.on, b, t, hg, ⟨e, by simpa using he1, he2, rfl⟩, hΓ _ _ _ hΓg, by simp [hΓg]⟩
    refine ⟨R, hs, hg', fun _ => ?_, ?_⟩
    · intro a W hb hc hz hd hbase K Q hK
      rw [List.length_map] at hc hK
      refine hob a W hb hc (deps_of _ fun j hj => ?_) (fun t ht => hbase t (fun j hj => hDS t ht j hj)) K Q hK
      obtain ⟨e, he, rfl⟩ := List.mem_map.1 hj
      obtain ⟨he1, he2⟩ := List.mem_filter.1 he
      have he' : e ∈ o.after := by simpa using he1
      cases hc : Γ[e.on]? with
      | none => trivial
      | some c =>
        obtain ⟨d, K'⟩ := c
        cases d with
        | none => trivial
        | some t => exact hd e he' he2 t (hΓ _ _ _ hc) K' (by simp [hc])
    · have := walk_of_walk3 hDS hT l (Γ ++ [(o.dst, R)]) (fun j hj => by
        have := hl (j + 1) (by simp; omega)
        simpa [Nat.add_assoc, Nat.add_comm 1 j] using this) (fun j d R' hj => by
        rcases Nat.lt_or_ge j Γ.length with h | h
        · rw [List.getElem?_append_left h] at hj
          exact hΓ j d R' hj
        · have hjl : j < (Γ ++ [(o.dst, R)]).length := (List.getElem?_eq_some_iff.1 hj).1
          obtain rfl : j = Γ.length := by simp at hjl; omega
          simp at hj
          rw [← hj.1]
          simp [dst, h0]) hw
      simpa using this

theorem region3 {S : World → World → Prop} {C : Nat → World → Prop} {B : Nat → List Nat} {w : World} (hC0 : ∀ j, C j { w with drawn := w.drawn + 1 }) (ht' : ∀ a b c, S a b → S b c → S a c) (hdr : ∀ W, S W { W with drawn := W.drawn + 1 }) {P : Program} {id : Nat} {Q : Exit → Act → World → Prop} {a : Act} {l : List Oper} (n : Nat) (hm : P.follows .mixedOrders = true) (hok : okB l.toArray n = true) (hbef : befOK l.toArray n B = true) (hsz : sizeB l.toArray n a.tmps.size = true)
    (h : walk3 S C B P ((l.take n).filterMap (·.dst)) w a (fun Γ => ∀ (x : Nat → Value) (W : World), S w W → facts x W 0 Γ → wpList P l.toArray Q (l.drop n) (fill (l.take n) 0 x a) W) [] (l.take n)) :
    (Code.region id l.toArray true).wp P Q a w := by
  have hn' : n < l.length := by
    simp only [okB, Bool.and_eq_true, decide_eq_true_eq] at hok
    simpa using hok.1.1.1.1.1
  have htl : (l.take n).length = n := by simp; omega
  refine region hC0 ht' hdr n hm hok hbef hsz (walk_of_walk3 (n := n) (fun t ht j hj hd => ht ?_) (fun Γ hT x W hb hx => hT x W hb (facts_of Γ 0 (fun j K hj => by rw [Nat.zero_add]; exact hx j K hj))) (l.take n) [] (fun j hj => by
      rw [htl] at hj
      simp [List.getElem?_take, hj]) (fun j d R hj => by simp at hj) h)
  have hlj : j < l.length := by omega
  simp [dst, hlj] at hd
  exact List.mem_filterMap.2 ⟨l[j], List.mem_iff_getElem.2 ⟨j, by omega, by simp⟩, hd⟩
section
variable {S : World → World → Prop} {C : Nat → World → Prop} {B : Nat → List Nat} {P : Program} {DS : List Tmp} {w0 : World} {a0 : Act} {T : Ctx → Prop} {Γ : Ctx} {o : Oper} {rest : List Oper}

theorem op3 (hr : ∀ W, S W W) (v : Value) (hg : GOK3 Γ o) (h : ∀ (a : Act) (W : World), S w0 W → C Γ.length W → deps Γ a W (ons o) → (∀ t, t ∉ DS → a.eval (.tmp t) = a0.eval (.tmp t)) → (execOp a.eval o).run P W = .ok (.value v) W)
    (hn : walk3 S C B P DS w0 a0 T (Γ ++ [(o.dst, fun u _ => u = v)]) rest) : walk3 S C B P DS w0 a0 T Γ (o :: rest) :=
  ⟨_, fun _ _ _ h _ => h, hg, fun a W hb hc hd hbase K Q hK => by
    unfold Oper.wp
    rw [h a W hb hc hd hbase]
    exact hK v W rfl (hr W) (fun _ _ h => h), hn⟩
/-- An operation that stores: what it does to the world is along S, and keeps the classes of all that do not come before it. -/
theorem store3 (R : World → Prop) (hs : ∀ W W', R W → S W W' → R W') (hg : GOK3 Γ o)
    (h : ∀ (a : Act) (W : World), S w0 W → C Γ.length W → deps Γ a W (ons o) → (∀ t, t ∉ DS → a.eval (.tmp t) = a0.eval (.tmp t)) → ∃ W', (execOp a.eval o).run P W = .ok .skip W' ∧ R W' ∧ S W W' ∧ ∀ j, j ∉ B Γ.length → C j W → C j W')
    (hn : walk3 S C B P DS w0 a0 T (Γ ++ [(o.dst, fun _ W => R W)]) rest) : walk3 S C B P DS w0 a0 T Γ (o :: rest) :=
  ⟨fun _ W => R W, fun _ W W' h hS => hs W W' h hS, hg, fun a W hb hc hd hbase K Q hK => by
    obtain ⟨W', hrun, hR, hS, hCC⟩ := h a W hb hc hd hbase
    unfold Oper.wp
    rw [hrun]
    exact hK undef W' hR hS hCC, hn⟩
theorem done3 (h : T Γ) : walk3 S C B P DS w0 a0 T Γ [] := h
end
end Go.Proofs.YtpkldjlljoledaaDoor.RelT

/- Contracts of the statements' helpers. %still -/
namespace Go.Proofs.YtpkldjlljoledaaDoor
open Go.RowKit
open Calm (bcell Blk)

theorem sample_any (w : World) : Calls Tryd.prog 68 #[] w fun r w' => r = .returned (.agg #[(.int .i64 (6)), (.int .i64 (0)), (.int .i64 (2)), (.int .i64 (1)), (.int .i64 (4)), (.int .i64 (1))]) ∧ Below w.heap.size w w' := by
  go_enter Tryd.func68, Tryd.ntmps68
  go_wp2
  refine bodyPost_ret (v := .agg #[(.int .i64 (6)), (.int .i64 (0)), (.int .i64 (2)), (.int .i64 (1)), (.int .i64 (4)), (.int .i64 (1))]) (by simp [results, Tryd.results68, go_sem, *]) rfl ⟨rfl, ?_⟩
  repeat (first | (with_reducible exact Below.refl _ _) | ((with_reducible refine Below.setCell ?_ ?_ _); rotate_left 1; focus (first | (simp; done) | (simp; omega) | (simp at *; omega))) | ((with_reducible refine Below.alloc ?_ ?_ _); rotate_left 1; focus (first | (simp; done) | (simp; omega) | (simp at *; omega))) | (with_reducible refine Below.drew ?_) | ((with_reducible refine Calm.step (by assumption) ?_ ?_); rotate_left 1; focus (first | (simp; done) | (simp; omega) | (simp at *; omega))))
theorem vented_any (w : World) : Calls Tryd.prog 69 #[] w fun r w' => r = .returned (.agg #[(.int .i64 (2)), (.int .i64 (1)), (.int .i64 (0)), (.int .i64 (1))]) ∧ Below w.heap.size w w' := by
  go_enter Tryd.func69, Tryd.ntmps69
  go_wp2
  refine bodyPost_ret (v := .agg #[(.int .i64 (2)), (.int .i64 (1)), (.int .i64 (0)), (.int .i64 (1))]) (by simp [results, Tryd.results69, go_sem, *]) rfl ⟨rfl, ?_⟩
  repeat (first | (with_reducible exact Below.refl _ _) | ((with_reducible refine Below.setCell ?_ ?_ _); rotate_left 1; focus (first | (simp; done) | (simp; omega) | (simp at *; omega))) | ((with_reducible refine Below.alloc ?_ ?_ _); rotate_left 1; focus (first | (simp; done) | (simp; omega) | (simp at *; omega))) | (with_reducible refine Below.drew ?_) | ((with_reducible refine Calm.step (by assumption) ?_ ?_); rotate_left 1; focus (first | (simp; done) | (simp; omega) | (simp at *; omega))))
theorem pair_any (a b c d : Int) (w : World) : Calls Tryd.prog 55 #[(.int .i64 (a)), (.int .i64 (b)), (.int .i64 (c)), (.int .i64 (d))] w fun r w' => r = .returned (.agg #[(.int .i64 (a)), (.int .i64 (b)), (.int .i64 (c)), (.int .i64 (d))]) ∧ Below w.heap.size w w' := by
  go_enter Tryd.func55, Tryd.ntmps55
  go_wp2
  refine bodyPost_ret (v := .agg #[(.int .i64 (a)), (.int .i64 (b)), (.int .i64 (c)), (.int .i64 (d))]) (by simp [results, Tryd.results55, go_sem, *]) rfl ⟨rfl, ?_⟩
  repeat (first | (with_reducible exact Below.refl _ _) | ((with_reducible refine Below.setCell ?_ ?_ _); rotate_left 1; focus (first | (simp; done) | (simp; omega) | (simp at *; omega))) | ((with_reducible refine Below.alloc ?_ ?_ _); rotate_left 1; focus (first | (simp; done) | (simp; omega) | (simp at *; omega))) | (with_reducible refine Below.drew ?_) | ((with_reducible refine Calm.step (by assumption) ?_ ?_); rotate_left 1; focus (first | (simp; done) | (simp; omega) | (simp at *; omega))))
theorem quotient_bad (e : Int) (w : World) (h : ¬ e = 0) :
    Calls Tryd.prog 24 #[.agg #[(.int .i64 (0)), (.int .i64 (0)), (.int .i64 (0)), (.int .i64 (0))], (.int .i64 (e)), (.int .i64 (e)), .agg #[(.int .i64 (0)), (.int .i64 (0)), (.int .i64 (0)), (.int .i64 (0))]] w fun r w' => r = .returned (.bool true) ∧ Below w.heap.size w w' := by
  go_enter Tryd.func24, Tryd.ntmps24
  go_wp2
  go_ret
  refine ⟨by first | rfl | (simp; done), ?_⟩
  repeat (first | (with_reducible exact Below.refl _ _) | ((with_reducible refine Below.setCell ?_ ?_ _); rotate_left 1; focus (first | (simp; done) | (simp; omega) | (simp at *; omega))) | ((with_reducible refine Below.alloc ?_ ?_ _); rotate_left 1; focus (first | (simp; done) | (simp; omega) | (simp at *; omega))) | (with_reducible refine Below.drew ?_) | ((with_reducible refine Calm.step (by assumption) ?_ ?_); rotate_left 1; focus (first | (simp; done) | (simp; omega) | (simp at *; omega))))
theorem quotient_ok (a b c d : Int) (w : World) :
    Calls Tryd.prog 24 #[.agg #[(.int .i64 (a)), (.int .i64 (b)), (.int .i64 (c)), (.int .i64 (d))], (.int .i64 (0)), (.int .i64 (0)), .agg #[(.int .i64 (a)), (.int .i64 (b)), (.int .i64 (c)), (.int .i64 (d))]] w fun r w' => r = .returned (.bool true) ∧ Below w.heap.size w w' := by
  go_enter Tryd.func24, Tryd.ntmps24
  go_wp2
  go_ret
  refine ⟨by first | rfl | (simp; done), ?_⟩
  repeat (first | (with_reducible exact Below.refl _ _) | ((with_reducible refine Below.setCell ?_ ?_ _); rotate_left 1; focus (first | (simp; done) | (simp; omega) | (simp at *; omega))) | ((with_reducible refine Below.alloc ?_ ?_ _); rotate_left 1; focus (first | (simp; done) | (simp; omega) | (simp at *; omega))) | (with_reducible refine Below.drew ?_) | ((with_reducible refine Calm.step (by assumption) ?_ ?_); rotate_left 1; focus (first | (simp; done) | (simp; omega) | (simp at *; omega))))
theorem ratio_bad (e : Int) (w : World) (h : ¬ e = 0) :
    Calls Tryd.prog 35 #[.agg #[(.int .i64 (0)), (.int .i64 (0))], (.int .i64 (e)), (.int .i64 (e)), .agg #[(.int .i64 (0)), (.int .i64 (0))]] w fun r w' => r = .returned (.bool true) ∧ Below w.heap.size w w' := by
  go_enter Tryd.func35, Tryd.ntmps35
  go_wp2
  go_ret
  refine ⟨by first | rfl | (simp; done), ?_⟩
  repeat (first | (with_reducible exact Below.refl _ _) | ((with_reducible refine Below.setCell ?_ ?_ _); rotate_left 1; focus (first | (simp; done) | (simp; omega) | (simp at *; omega))) | ((with_reducible refine Below.alloc ?_ ?_ _); rotate_left 1; focus (first | (simp; done) | (simp; omega) | (simp at *; omega))) | (with_reducible refine Below.drew ?_) | ((with_reducible refine Calm.step (by assumption) ?_ ?_); rotate_left 1; focus (first | (simp; done) | (simp; omega) | (simp at *; omega))))
theorem ratio_ok (a b : Int) (w : World) :
    Calls Tryd.prog 35 #[.agg #[(.int .i64 (a)), (.int .i64 (b))], (.int .i64 (0)), (.int .i64 (0)), .agg #[(.int .i64 (a)), (.int .i64 (b))]] w fun r w' => r = .returned (.bool true) ∧ Below w.heap.size w w' := by
  go_enter Tryd.func35, Tryd.ntmps35
  go_wp2
  go_ret
  refine ⟨by first | rfl | (simp; done), ?_⟩
  repeat (first | (with_reducible exact Below.refl _ _) | ((with_reducible refine Below.setCell ?_ ?_ _); rotate_left 1; focus (first | (simp; done) | (simp; omega) | (simp at *; omega))) | ((with_reducible refine Below.alloc ?_ ?_ _); rotate_left 1; focus (first | (simp; done) | (simp; omega) | (simp at *; omega))) | (with_reducible refine Below.drew ?_) | ((with_reducible refine Calm.step (by assumption) ?_ ?_); rotate_left 1; focus (first | (simp; done) | (simp; omega) | (simp at *; omega))))
end Go.Proofs.YtpkldjlljoledaaDoor
