/- Part 16 of the texts of the claim: RelG, Wei0, Wei_00. -/
import Derived.Test.YtpkldjlljoledaaDoorWx12
import Derived.Test.YtpkldjlljoledaaDoorWx15
import Derived.Test.YtpkldjlljoledaaDoorWx14

/- Regions whose order is open, the world turning along any relation S (reflexive, transitive): stores in the head. Printed by relg.py. -/
namespace Go.Proofs.YtpkldjlljoledaaDoor.RelG
open Go.RowKit
open Rel (Know dst puts upd puts_agree puts_put Apart apart_of puts_new put_size puts_size puts_other eval_put_same puts_here wanted_of GOK countP_upd left Ln okB sizeB all_listed listed_Ln some_ready fill fill_puts Ctx dep1 deps deps_of facts facts_of ons GOK3)

/-- .. and stays known along S. -/
def Stable (S : World → World → Prop) (R : Know) : Prop := ∀ v W W', R v W → S W W' → R v W'

section
variable {P : Program} {ops : Array Oper} {S : World → World → Prop}

/-- What an operation of the head must show: wherever it comes up. -/
def Ob (S : World → World → Prop) (P : Program) (ops : Array Oper) (n : Nat) (w0 : World) (a0 : Act) (Γ : List Know) (o : Oper) (R : Know) : Prop :=
  ∀ (a : Act) (W : World), S w0 W → a.tmps.size = a0.tmps.size →
    (∀ e ∈ o.after, Region.binds .any e = true → ∀ t, dst ops e.on = some t → ∀ K, Γ[e.on]? = some K → K (a.eval (.tmp t)) W) →
    (∀ t, (∀ j, j < n → dst ops j ≠ some t) → a.eval (.tmp t) = a0.eval (.tmp t)) →
    ∀ (K : Act → World → Prop) (Q : Exit → Act → World → Prop), (∀ v W', R v W' → S W W' → K (a.put o.dst v) W') → o.wp P a W K Q


/-- The walk in the order of the text: at each operation something that stays known is chosen. -/
def walk (S : World → World → Prop) (P : Program) (ops : Array Oper) (n : Nat) (w0 : World) (a0 : Act) (T : List Know → Prop) : List Know → List Oper → Prop
  | Γ, [] => T Γ
  | Γ, o :: l => ∃ R, Stable S R ∧ GOK ops Γ o ∧ (dst ops Γ.length = o.dst → Ob S P ops n w0 a0 Γ o R) ∧ walk S P ops n w0 a0 T (Γ ++ [R]) l


theorem walk_all {n : Nat} {w0 : World} {a0 : Act} {T : List Know → Prop} : ∀ (l : List Oper) (Γ : List Know), walk S P ops n w0 a0 T Γ l →
    ∃ Δ : List Know, Δ.length = l.length ∧ T (Γ ++ Δ) ∧ ∀ k o, l[k]? = some o → ∃ R, Δ[k]? = some R ∧ Stable S R ∧ GOK ops (Γ ++ Δ.take k) o ∧ (dst ops (Γ.length + k) = o.dst → Ob S P ops n w0 a0 (Γ ++ Δ.take k) o R)
  | [], Γ, h => ⟨[], rfl, by simpa [walk] using h, fun k o hk => by simp at hk⟩
  | o :: l, Γ, h => by
    obtain ⟨R, hs, hg, hob, hw⟩ := h
    obtain ⟨Δ, hl, hT, hall⟩ := walk_all l _ hw
    refine ⟨R :: Δ, by simp [hl], by simpa using hT, fun k o' hk => ?_⟩
    cases k with
    | zero =>
      obtain rfl : o = o' := by simpa using hk
      exact ⟨R, rfl, hs, by simpa using hg, by simpa using hob⟩
    | succ k =>
      obtain ⟨R', h1, h2, h3, h4⟩ := hall k o' (by simpa using hk)
      refine ⟨R', by simpa using h1, h2, by simpa using h3, fun hd => ?_⟩
      have := h4 (by rw [← hd]; congr 1; simp; omega)
      simpa using this

theorem Ob.mono {n : Nat} {w0 : World} {a0 : Act} {Γ Δ : List Know} {o : Oper} {R : Know} (h : Ob S P ops n w0 a0 Γ o R) (hsub : ∀ e ∈ o.after, ∀ K, Γ[e.on]? = some K → Δ[e.on]? = some K) : Ob S P ops n w0 a0 Δ o R :=
  fun a W hb hz hd hbase K Q hK => h a W hb hz (fun e he hbd t ht K' hK' => hd e he hbd t ht K' (hsub e he K' hK')) hbase K Q hK

/-- What holds while the head is on its way. -/
structure Inv (S : World → World → Prop) (ops : Array Oper) (n : Nat) (w0 : World) (a0 : Act) (Γ : List Know) (listed : Array Bool) (a : Act) (W : World) : Prop where
  below : S w0 W
  vals : ∃ x : Nat → Value, a = puts ops x (fun j => listed.getD j false) (List.range n) a0 ∧ ∀ j, j < n → listed.getD j false = true → ∀ K, Γ[j]? = some K → K (x j) W


theorem go (ht' : ∀ a b c, S a b → S b c → S a c) {n : Nat} {Q : Exit → Act → World → Prop} {w0 : World} {a0 : Act} {Γ : List Know} (hok : okB ops n = true) (hsz : sizeB ops n a0.tmps.size = true)
    (hΓ : ∀ k, k < n → ∃ o R, ops[k]? = some o ∧ Γ[k]? = some R ∧ Stable S R ∧ GOK ops Γ o ∧ Ob S P ops n w0 a0 Γ o R)
    (hend : ∀ (x : Nat → Value) (W : World), S w0 W → (∀ j, j < n → ∀ K, Γ[j]? = some K → K (x j) W) → wpAny P .any ops Q (ops.size - n) (Ln n ops.size) (puts ops x (fun _ => true) (List.range n) a0) W) :
    ∀ (f : Nat) (listed : Array Bool) (a : Act) (W : World), HeadInv .any ops n listed → left n listed = f → Inv S ops n w0 a0 Γ listed a W → wpAny P .any ops Q (f + (ops.size - n)) listed a W := by
  simp only [okB, Bool.and_eq_true, decide_eq_true_eq] at hok
  obtain ⟨⟨⟨⟨⟨hn, hs⟩, hc⟩, _⟩, hap⟩, hback⟩ := hok
  have hap := apart_of hap
  intro f
  induction f with
  | zero =>
    intro listed a W inv hl hI
    obtain ⟨hb, x, rfl, hx⟩ := hI
    have hall := all_listed hl
    rw [Nat.zero_add]
    rw [puts_agree (p' := fun _ => true) (x' := x) (List.range n) a0 (fun j hj => ⟨hall j (List.mem_range.1 hj), fun _ => rfl⟩), listed_Ln inv hl (by omega)]
    exact hend x W hb (fun j hj K hK => hx j hj (hall j hj) K hK)
  | succ f ih =>
    intro listed a W inv hl hI
    have hex : ∃ k, k < n ∧ listed.getD k true = false := by
      apply Classical.byContradiction
      intro hno
      have : left n listed = 0 := List.countP_eq_zero.2 (fun j hj => by
        have hj := List.mem_range.1 hj
        have hjs : j < listed.size := by rw [inv.size]; omega
        cases h : listed.getD j false with
        | true => simp
        | false => exact absurd ⟨j, hj, getD_in hjs h⟩ hno)
      omega
    obtain ⟨k, hk, hun⟩ := hex
    rw [show f + 1 + (ops.size - n) = (f + (ops.size - n)) + 1 by omega]
    refine ⟨fun h0 => ?_, fun i hi => ?_⟩
    · obtain ⟨i, hi⟩ := some_ready inv hback hn (k + 1) k (by omega) hk hun
      rw [h0] at hi
      cases hi
    have hin : i < n := by
      rcases Nat.lt_or_ge i n with h | h
      · exact h
      · exact absurd hi (tail_waits hs hc hn inv _ k rfl hk hun i h)
    obtain ⟨hiun, oi, hoi, hdeps⟩ := mem_ready.1 hi
    obtain ⟨o, R, ho, hR, hst, hg, hob⟩ := hΓ i hin
    obtain rfl : oi = o := Option.some.inj (hoi.symm.trans ho)
    obtain ⟨hb, x, rfl, hx⟩ := hI
    have hdi : dst ops i = oi.dst := by simp [dst, ho]
    have his : i < listed.size := by rw [inv.size]; omega
    have hif : listed.getD i false = false := getD_both hiun
    have hszt : ∀ j t, j < n → dst ops j = some t → t < a0.tmps.size := fun j t hj hd => by
      have := List.all_eq_true.1 hsz j (List.mem_range.2 hj)
      simpa [hd] using this
    have back : ∀ e ∈ oi.after, Region.binds .any e = true → e.on < i := fun e he hbd => by
      have h1 := List.all_eq_true.1 hback i (List.mem_range.2 (by omega))
      simp only [ho] at h1
      simpa [hbd] using Array.all_eq_true'.1 h1 e he
    unfold wpOp
    simp only [ho]
    have hwant : Region.wanted oi (yielded ops (puts ops x (fun j => listed.getD j false) (List.range n) a0).tmps) = true := by
      rcases hg with hg | ⟨g, b, t, hg, ⟨e, he, hbd, rfl⟩, hd, hK⟩
      · simp [Region.wanted, hg]
      · have hel := hdeps e he hbd
        have hen : e.on < n := by have := back e he hbd; omega
        have h1 := puts_here (x := x) (p := fun j => listed.getD j false) hap hen hel hd (List.range n) a0 (List.nodup_range) (List.mem_range.2 hen) (fun j hj => List.mem_range.1 hj) (hszt _ _ hen hd)
        have h2 : x e.on = .bool b := hx e.on hen hel _ hK
        have h3 : t < (puts ops x (fun j => listed.getD j false) (List.range n) a0).tmps.size := by rw [puts_size]; exact hszt _ _ hen hd
        rw [h2] at h1
        exact wanted_of hg hd h1 h3
    rw [if_pos hwant]
    refine .inl (hob _ W hb (puts_size _ _) ?_ ?_ _ _ ?_)
    · intro e he hbd t ht K hK
      have hel := hdeps e he hbd
      have hen : e.on < n := by have := back e he hbd; omega
      rw [puts_here hap hen hel ht (List.range n) a0 (List.nodup_range) (List.mem_range.2 hen) (fun j hj => List.mem_range.1 hj) (hszt _ _ hen ht)]
      exact hx e.on hen hel K hK
    · intro t ht
      exact puts_other _ _ (fun j hj => ht j (List.mem_range.1 hj))
    · intro v W' hv hb'
      have hget : ∀ j, (listed.setIfInBounds i true).getD j false = upd (fun j => listed.getD j false) i true j := by
        intro j
        by_cases hji : j = i
        · subst hji
          simp [upd, his]
        · rw [getD_set_ne false (Ne.symm hji)]
          simp [upd, hji]
      refine ih _ _ W' (inv.set hi hin) ?_ ⟨ht' _ _ _ hb hb', upd x i v, ?_, ?_⟩
      · have h1 := countP_upd (i := i) (p := fun j => !listed.getD j false) (by simp [hif]) (List.range n) List.nodup_range (List.mem_range.2 hin)
        have h2 : left n (listed.setIfInBounds i true) = (List.range n).countP (upd (fun j => !listed.getD j false) i false) := by
          unfold left
          congr 1
          funext j
          rw [hget j]
          by_cases hji : j = i <;> simp [upd, hji]
        unfold left at hl
        omega
      · rw [← hdi, puts_new hap hin hif (List.range n) a0 List.nodup_range (List.mem_range.2 hin) (fun j hj => List.mem_range.1 hj)]
        exact puts_agree _ _ (fun j _ => ⟨(hget j).symm, fun _ => rfl⟩)
      · intro j hj hlj K hK
        rw [hget j] at hlj
        by_cases hji : j = i
        · subst hji
          obtain rfl : R = K := Option.some.inj (hR.symm.trans hK)
          simpa [upd] using hv
        · have e1 : upd x i v j = x j := by simp [upd, hji]
          have e2 : listed.getD j false = true := by simpa [upd, hji] using hlj
          rw [e1]
          obtain ⟨_, R', _, hR', hst', _⟩ := hΓ j hj
          obtain rfl : R' = K := Option.some.inj (hR'.symm.trans hK)
          exact hst' _ _ _ (hx j hj e2 _ hK) hb'

/-- The frame with all values of the head. -/
def fill : List Oper → Nat → (Nat → Value) → Act → Act
  | [], _, _, a => a
  | o :: l, k, x, a => fill l (k + 1) x (a.put o.dst (x k))
theorem fill_puts {x : Nat → Value} : ∀ (l : List Oper) (k : Nat) (a : Act), (∀ j, j < l.length → l[j]? = ops[k + j]?) → fill l k x a = puts ops x (fun _ => true) (List.range' k l.length) a
  | [], _, _, _ => rfl
  | o :: l, k, a, h => by
    have h0 : ops[k]? = some o := by simpa using (h 0 (by simp)).symm
    have hd : dst ops k = o.dst := by simp [dst, h0]
    simp only [fill, List.length_cons, List.range'_succ, puts, if_true, hd]
    exact fill_puts l (k + 1) _ (fun j hj => by have := h (j + 1) (by simp; omega); simpa [Nat.add_assoc, Nat.add_comm 1 j] using this)

/-- ████ The region. -/
theorem region (ht' : ∀ a b c, S a b → S b c → S a c) (hdr : ∀ W, S W { W with drawn := W.drawn + 1 }) {id : Nat} {Q : Exit → Act → World → Prop} {a : Act} {w : World} {l : List Oper} (n : Nat) (hm : P.follows .mixedOrders = true) (hok : okB l.toArray n = true) (hsz : sizeB l.toArray n a.tmps.size = true)
    (h : walk S P l.toArray n w a (fun (Γ : List Know) => ∀ (x : Nat → Value) (W : World), S w W → (∀ (j : Nat) (K : Know), Γ[j]? = some K → K (x j) W) → wpList P l.toArray Q (l.drop n) (fill (l.take n) 0 x a) W) [] (l.take n)) :
    (Code.region id l.toArray true).wp P Q a w := by
  have hok' := hok
  simp only [okB, Bool.and_eq_true, decide_eq_true_eq] at hok'
  obtain ⟨⟨⟨⟨⟨hn, _⟩, _⟩, hseq⟩, _⟩, hback⟩ := hok'
  have hn' : n < l.length := by simpa using hn
  have htl : (l.take n).length = n := by simp; omega
  obtain ⟨Δ, hlen, hT, hall⟩ := walk_all _ _ h
  rw [List.nil_append] at hT
  rw [htl] at hlen
  have hget : ∀ k, k < n → (l.take n)[k]? = l.toArray[k]? := fun k hk => by simp [List.getElem?_take, hk]
  have hΓ : ∀ k, k < n → ∃ o R, l.toArray[k]? = some o ∧ Δ[k]? = some R ∧ Stable S R ∧ GOK l.toArray Δ o ∧ Ob S P l.toArray n w a Δ o R := by
    intro k hk
    obtain ⟨o, ho⟩ : ∃ o, l.toArray[k]? = some o := ⟨_, Array.getElem?_eq_getElem (by simp; omega)⟩
    obtain ⟨R, h1, h2, h3, h4⟩ := hall k o (by rw [hget k hk, ho])
    rw [List.nil_append] at h3
    refine ⟨o, R, ho, h1, h2, h3.mono (fun g K hK => by
      rw [List.getElem?_take] at hK
      split at hK
      · exact hK
      · cases hK), (h4 (by simp only [List.length_nil, Nat.zero_add]; simp [dst, ho])).mono fun e he K hK => ?_⟩
    rw [List.nil_append] at hK
    rw [List.getElem?_take] at hK
    split at hK
    · exact hK
    · cases hK
  have inv0 : HeadInv .any l.toArray n (Array.replicate l.toArray.size false) :=
    ⟨by simp, fun j oj _ hl => (by rw [getD_replicate_false] at hl; cases hl), fun t _ ht => getD_in (by simpa using ht) (getD_replicate_false _ _)⟩
  have hleft : left n (Array.replicate l.toArray.size false) = n := by
    unfold left
    rw [List.countP_eq_length.2 (fun j _ => by rw [getD_replicate_false]; rfl), List.length_range]
  have hputs : ∀ x, puts l.toArray x (fun _ => true) (List.range n) a = fill (l.take n) 0 x a := fun x => by
    rw [fill_puts (ops := l.toArray) (l.take n) 0 a (fun j hj => by rw [htl] at hj; rw [hget j hj, Nat.zero_add]), htl, List.range_eq_range']
  have H := go ht' (P := P) (Q := Q) (w0 := w) (a0 := a) hok hsz hΓ (fun x W hb hx => by
    have hdl : (l.drop n).length = l.toArray.size - n := by simp
    have := wpAny_of_seq (md := .any) (Q' := Q) (ops := l.toArray) (P := P) (l.drop n) n (Ln n l.toArray.size) (fill (l.take n) 0 x a) W (fun j => by simp [List.getElem?_drop]) (by rw [hdl]; exact hseq)
      (hT x W hb (fun j K hK => hx j (by
        have := (List.getElem?_eq_some_iff.1 hK).1
        omega) K hK))
    rw [hputs x, ← hdl]
    exact this) n _ a { w with drawn := w.drawn + 1 } inv0 hleft ⟨hdr w, fun _ => undef, by
      rw [puts_agree (p' := fun _ => false) (x' := fun _ => undef) (List.range n) a (fun j _ => ⟨getD_replicate_false _ _, fun _ => rfl⟩)]
      exact (show ∀ (L : List Nat) (b : Act), b = puts l.toArray (fun _ => undef) (fun _ => false) L b from fun L => by
        induction L with
        | nil => intro b; rfl
        | cons j L ih => intro b; unfold puts; simpa using ih b) _ _, fun j _ hl => by rw [getD_replicate_false] at hl; cases hl⟩
  refine wp_region_any hm ?_
  have e : n + (l.toArray.size - n) = l.toArray.size := by omega
  rw [e] at H
  exact H

end

def Ob3 (S : World → World → Prop) (P : Program) (DS : List Tmp) (w0 : World) (a0 : Act) (Γ : Ctx) (o : Oper) (R : Know) : Prop :=
  ∀ (a : Act) (W : World), S w0 W → deps Γ a W (ons o) → (∀ t, t ∉ DS → a.eval (.tmp t) = a0.eval (.tmp t)) →
    ∀ (K : Act → World → Prop) (Q : Exit → Act → World → Prop), (∀ v W', R v W' → S W W' → K (a.put o.dst v) W') → o.wp P a W K Q

def walk3 (S : World → World → Prop) (P : Program) (DS : List Tmp) (w0 : World) (a0 : Act) (T : Ctx → Prop) : Ctx → List Oper → Prop
  | Γ, [] => T Γ
  | Γ, o :: l => ∃ R, Stable S R ∧ GOK3 Γ o ∧ Ob3 S P DS w0 a0 Γ o R ∧ walk3 S P DS w0 a0 T (Γ ++ [(o.dst, R)]) l
theorem walk_of_walk3 {S : World → World → Prop} {P : Program} {ops : Array Oper} {n : Nat} {DS : List Tmp} {w0 : World} {a0 : Act} {T : Ctx → Prop} {T' : List Know → Prop} (hDS : ∀ t, t ∉ DS → ∀ j, j < n → dst ops j ≠ some t)
    (hT : ∀ Γ, T Γ → T' (Γ.map (·.2))) :
    ∀ (l : List Oper) (Γ : Ctx), (∀ j, j < l.length → l[j]? = ops[Γ.length + j]?) → (∀ j d R, Γ[j]? = some (d, R) → dst ops j = d) → walk3 S P DS w0 a0 T Γ l → walk S P ops n w0 a0 T' (Γ.map (·.2)) l
  | [], Γ, _, _, h => hT Γ h
  | o :: l, Γ, hl, hΓ, h => by
    obtain ⟨R, hs, hg, hob, hw⟩ := h
    have h0 : ops[Γ.length]? = some o := by simpa using (hl 0 (by simp)).symm
    have hg' : GOK ops (Γ.map (·.2)) o := by
      rcases hg with hg | ⟨g, b, t, hg, hin, hΓg⟩
      · exact .inl hg
      · obtain ⟨e, he, rfl⟩ := List.mem_map.1 hin
        obtain ⟨he1, he2⟩ := List.mem_filter.1 he
        exact .inr ⟨e.on, b, t, hg, ⟨e, by simpa using he1, he2, rfl⟩, hΓ _ _ _ hΓg, by simp [hΓg]⟩
    refine ⟨R, hs, hg', fun _ => ?_, ?_⟩
    · intro a W hb hz hd hbase K Q hK
      refine hob a W hb (deps_of _ fun j hj => ?_) (fun t ht => hbase t (fun j hj => hDS t ht j hj)) K Q hK
      obtain ⟨e, he, rfl⟩ := List.mem_map.1 hj
      obtain ⟨he1, he2⟩ := List.mem_filter.1 he
      have he' : e ∈ o.after := by simpa using he1
      cases hc : Γ[e.on]? with
      | none => trivial
      | some c =>
        obtain ⟨d, K'⟩ := c
        cases d with
        | none => trivial
        | some t => exact hd e he' he2 t (hΓ _ _ _ hc) K' (by simp [hc])
    · have := walk_of_walk3 hDS hT l (Γ ++ [(o.dst, R)]) (fun j hj => by
        have := hl (j + 1) (by simp; omega)
        simpa [Nat.add_assoc, Nat.add_comm 1 j] using this) (fun j d R' hj => by
        rcases Nat.lt_or_ge j Γ.length with h | h
        · rw [List.getElem?_append_left h] at hj
          exact hΓ j d R' hj
        · have hjl : j < (Γ ++ [(o.dst, R)]).length := (List.getElem?_eq_some_iff.1 hj).1
          obtain rfl : j = Γ.length := by simp at hjl; omega
          simp at hj
          rw [← hj.1]
          simp [dst, h0]) hw
      simpa using this

theorem region3 {S : World → World → Prop} (ht' : ∀ a b c, S a b → S b c → S a c) (hdr : ∀ W, S W { W with drawn := W.drawn + 1 }) {P : Program} {id : Nat} {Q : Exit → Act → World → Prop} {a : Act} {w : World} {l : List Oper} (n : Nat) (hm : P.follows .mixedOrders = true) (hok : okB l.toArray n = true) (hsz : sizeB l.toArray n a.tmps.size = true)
    (h : walk3 S P ((l.take n).filterMap (·.dst)) w a (fun Γ => ∀ (x : Nat → Value) (W : World), S w W → facts x W 0 Γ → wpList P l.toArray Q (l.drop n) (fill (l.take n) 0 x a) W) [] (l.take n)) :
    (Code.region id l.toArray true).wp P Q a w := by
  have hn' : n < l.length := by
    simp only [okB, Bool.and_eq_true, decide_eq_true_eq] at hok
    simpa using hok.1.1.1.1.1
  have htl : (l.take n).length = n := by simp; omega
  refine region ht' hdr n hm hok hsz (walk_of_walk3 (n := n) (fun t ht j hj hd => ht ?_) (fun Γ hT x W hb hx => hT x W hb (facts_of Γ 0 (fun j K hj => by rw [Nat.zero_add]; exact hx j K hj))) (l.take n) [] (fun j hj => by
      rw [htl] at hj
      simp [List.getElem?_take, hj]) (fun j d R hj => by simp at hj) h)
  have hlj : j < l.length := by omega
  simp [dst, hlj] at hd
  exact List.mem_filterMap.2 ⟨l[j], List.mem_iff_getElem.2 ⟨j, by omega, by simp⟩, hd⟩
section
variable {S : World → World → Prop} {P : Program} {DS : List Tmp} {w0 : World} {a0 : Act} {T : Ctx → Prop} {Γ : Ctx} {o : Oper} {rest : List Oper}

theorem op3 (hr : ∀ W, S W W) (v : Value) (hg : GOK3 Γ o) (h : ∀ (a : Act) (W : World), S w0 W → deps Γ a W (ons o) → (∀ t, t ∉ DS → a.eval (.tmp t) = a0.eval (.tmp t)) → (execOp a.eval o).run P W = .ok (.value v) W)
    (hn : walk3 S P DS w0 a0 T (Γ ++ [(o.dst, fun u _ => u = v)]) rest) : walk3 S P DS w0 a0 T Γ (o :: rest) :=
  ⟨_, fun _ _ _ h _ => h, hg, fun a W hb hd hbase K Q hK => by
    unfold Oper.wp
    rw [h a W hb hd hbase]
    exact hK v W rfl (hr W), hn⟩
/-- An operation that stores: what it does to the world is along S. -/
theorem store3 (R : World → Prop) (hs : ∀ W W', R W → S W W' → R W') (hg : GOK3 Γ o)
    (h : ∀ (a : Act) (W : World), S w0 W → deps Γ a W (ons o) → (∀ t, t ∉ DS → a.eval (.tmp t) = a0.eval (.tmp t)) → ∃ W', (execOp a.eval o).run P W = .ok .skip W' ∧ R W' ∧ S W W')
    (hn : walk3 S P DS w0 a0 T (Γ ++ [(o.dst, fun _ W => R W)]) rest) : walk3 S P DS w0 a0 T Γ (o :: rest) :=
  ⟨fun _ W => R W, fun _ W W' h hS => hs W W' h hS, hg, fun a W hb hd hbase K Q hK => by
    obtain ⟨W', hrun, hR, hS⟩ := h a W hb hd hbase
    unfold Oper.wp
    rw [hrun]
    exact hK undef W' hR hS, hn⟩
theorem done3 (h : T Γ) : walk3 S P DS w0 a0 T Γ [] := h
end
end Go.Proofs.YtpkldjlljoledaaDoor.RelG

/- For the law on weighing: the elements of an array of three fractions. -/
namespace Go.Proofs.YtpkldjlljoledaaDoor
open Go.RowKit
theorem wix0 (a b c d e f : Int) : ∀ w : World, (Instr.index 70 (.agg #[(.int .i64 (a)), (.int .i64 (b)), (.int .i64 (c)), (.int .i64 (d)), (.int .i64 (e)), (.int .i64 (f))]) (.int .i64 0)).run Tryd.prog w = .ok (.agg #[(.int .i64 (a)), (.int .i64 (b))]) w := fun _ => by kernel_rfl
theorem wix1 (a b c d e f : Int) : ∀ w : World, (Instr.index 70 (.agg #[(.int .i64 (a)), (.int .i64 (b)), (.int .i64 (c)), (.int .i64 (d)), (.int .i64 (e)), (.int .i64 (f))]) (.int .i64 1)).run Tryd.prog w = .ok (.agg #[(.int .i64 (c)), (.int .i64 (d))]) w := fun _ => by kernel_rfl
theorem wix2 (a b c d e f : Int) : ∀ w : World, (Instr.index 70 (.agg #[(.int .i64 (a)), (.int .i64 (b)), (.int .i64 (c)), (.int .i64 (d)), (.int .i64 (e)), (.int .i64 (f))]) (.int .i64 2)).run Tryd.prog w = .ok (.agg #[(.int .i64 (e)), (.int .i64 (f))]) w := fun _ => by kernel_rfl

open Calm (bcell Blk)
/-- below block g all is as it was; each cell of block g is as it was, or as it will be. -/
structure Keeps (g : Nat) (new : Array Value) (W W' : World) : Prop where
  below : Below g W W'
  cell : ∀ i, W'.cell? ⟨g, i, none⟩ = W.cell? ⟨g, i, none⟩ ∨ W'.cell? ⟨g, i, none⟩ = new[i]? ∧ ∃ u, W.cell? ⟨g, i, none⟩ = some u
  frozen : ∀ i, W'.frozen? ⟨g, i, none⟩ = W.frozen? ⟨g, i, none⟩
theorem Keeps.refl (g : Nat) (new : Array Value) (W : World) : Keeps g new W W := ⟨Below.refl _ _, fun _ => .inl rfl, fun _ => rfl⟩
theorem Keeps.trans {g : Nat} {new : Array Value} (a b c : World) (h : Keeps g new a b) (h' : Keeps g new b c) : Keeps g new a c := by
  refine ⟨h.below.trans h'.below, fun i => ?_, fun i => (h'.frozen i).trans (h.frozen i)⟩
  rcases h'.cell i with e' | ⟨e', u', hu'⟩
  · rcases h.cell i with e | ⟨e, hu⟩
    · exact .inl (e'.trans e)
    · exact .inr ⟨e'.trans e, hu⟩
  · rcases h.cell i with e | ⟨_, hu⟩
    · exact .inr ⟨e', u', e ▸ hu'⟩
    · exact .inr ⟨e', hu⟩
theorem Keeps.drawn {g : Nat} {new : Array Value} (W : World) : Keeps g new W { W with drawn := W.drawn + 1 } := ⟨(Below.refl _ _).drew, fun _ => .inl rfl, fun _ => rfl⟩
theorem Keeps.has {g : Nat} {new cs : Array Value} {W W' : World} (h : Keeps g new W W') (hB : Blk W g cs) (hsz : new.size = cs.size) {i : Nat} (hi : i < cs.size) : ∃ u, W'.cell? ⟨g, i, none⟩ = some u := by
  rcases h.cell i with e | ⟨e, _⟩
  · exact ⟨cs[i], by rw [e, hB.c i]; simp [hi]⟩
  · exact ⟨new[i]'(by omega), by rw [e]; simp [hsz, hi]⟩
theorem Keeps.put {g : Nat} {new : Array Value} {W : World} {i : Nat} {u v : Value} (hu : W.cell? ⟨g, i, none⟩ = some u) (hv : new[i]? = some v) : Keeps g new W (W.setCell ⟨g, i, none⟩ v) := by
  refine ⟨(Below.refl _ _).setCell (p := ⟨g, i, none⟩) (Nat.le_refl _) _, fun j => ?_, fun j => World.frozen?_setCell ..⟩
  by_cases hij : i = j
  · subst hij
    exact .inr ⟨(World.cell?_setCell_same W _ v hu).trans hv.symm, u, hu⟩
  · exact .inl (World.cell?_setCell_other W ⟨g, i, none⟩ ⟨g, j, none⟩ v (by intro e; cases e; exact hij rfl))
theorem Keeps.blk {g : Nat} {new cs : Array Value} {W W' : World} (h : Keeps g new W W') (hB : Blk W g cs) (hn : ∀ i, cs[i]? = new[i]? ∨ W'.cell? ⟨g, i, none⟩ = new[i]?) : Blk W' g new := by
  refine ⟨Nat.lt_of_lt_of_le hB.lt h.below.size, fun i => ?_, fun i => (h.frozen i).trans (hB.f i)⟩
  rcases hn i with e | e
  · rcases h.cell i with e' | ⟨e', _⟩
    · rw [e', hB.c i, e]
    · exact e'
  · exact e
theorem Calm.Blk.sub {w w' : World} {B g : Nat} {cs : Array Value} (h : Blk w g cs) (hb : Below B w w') (hg : g < B) : Blk w' g cs :=
  ⟨Nat.lt_of_lt_of_le h.lt hb.size, fun i => (hb.cell (p := ⟨g, i, none⟩) hg).trans (h.c i), fun i => (hb.frozen (p := ⟨g, i, none⟩) hg).trans (h.f i)⟩
theorem Keeps.old {g : Nat} {new : Array Value} {W W' : World} (h : Keeps g new W W') : (∀ b o, b < g → W'.cell? ⟨b, o, none⟩ = W.cell? ⟨b, o, none⟩) ∧ (∀ b o, b < g → W'.frozen? ⟨b, o, none⟩ = W.frozen? ⟨b, o, none⟩) :=
  ⟨fun b o hb => h.below.cell (p := ⟨b, o, none⟩) hb, fun b o hb => h.below.frozen (p := ⟨b, o, none⟩) hb⟩
end Go.Proofs.YtpkldjlljoledaaDoor

/- The walk of DriverWeighs, one of six cases. -/
namespace Go.Proofs.YtpkldjlljoledaaDoor
open Go.RowKit
open Calm (bcell Blk)
set_option maxRecDepth 100000 in
set_option maxHeartbeats 16000000 in
theorem wei_00 (d1 d2 d3 d4 d5 d6 ad k1 k2 k3 k4 k5 k6 k7 k8 f1 f2 g1 g2 : Int) (w : World) (hL : Lim w)
    (HCD : Hid (∀ W : World, Calls Tryd.prog 17 #[.agg #[(.int .i64 (d1)), (.int .i64 (d2)), (.int .i64 (d3)), (.int .i64 (d4)), (.int .i64 (d5)), (.int .i64 (d6))]] W fun r w' => r = .returned ((.int .i64 (0))) ∧ Below W.heap.size W w'))
    (HQ : Hid (∀ W : World, Lim W → Calls Tryd.prog 38 #[.agg #[(.int .i64 (d1)), (.int .i64 (d2)), (.int .i64 (d3)), (.int .i64 (d4)), (.int .i64 (d5)), (.int .i64 (d6))]] W fun r w' => r = .returned (.tuple #[.agg #[(.int .i64 (k1)), (.int .i64 (k2)), (.int .i64 (k3)), (.int .i64 (k4)), (.int .i64 (k5)), (.int .i64 (k6))], (.int .i64 (0))]) ∧ Below W.heap.size W w'))
    (HQO : Hid (∀ W : World, Lim W → Calls Tryd.prog 38 #[.agg #[(.int .i64 (4 * d1)), (.int .i64 (d2)), (.int .i64 (2 * d3)), (.int .i64 (d4)), (.int .i64 (d5)), (.int .i64 (d6))]] W fun r w' => r = .returned (.tuple #[.agg #[(.int .i64 (k1)), (.int .i64 (k2)), (.int .i64 (k3)), (.int .i64 (k4)), (.int .i64 (k7)), (.int .i64 (k8))], (.int .i64 (0))]) ∧ Below W.heap.size W w'))
    (HR1 : Hid (∀ W : World, Lim W → Calls Tryd.prog 37 #[.agg #[(.int .i64 (d1)), (.int .i64 (d2)), (.int .i64 (d3)), (.int .i64 (d4)), (.int .i64 (d5)), (.int .i64 (d6))]] W fun r w' => r = .returned (.tuple #[.agg #[(.int .i64 (f1)), (.int .i64 (f2))], (.int .i64 (0))]) ∧ Below W.heap.size W w'))
    (HR2 : Hid (∀ W : World, Lim W → Calls Tryd.prog 37 #[.agg #[(.int .i64 (d1)), (.int .i64 (d2)), (.int .i64 (d3)), (.int .i64 (d4 + (1 + ad % 100))), (.int .i64 (d5)), (.int .i64 (d6))]] W fun r w' => r = .returned (.tuple #[.agg #[(.int .i64 (g1)), (.int .i64 (g2))], (.int .i64 (0))]) ∧ Below W.heap.size W w'))
    (HT1 : Hid (∀ W : World, Calls Tryd.prog 41 #[.agg #[(.int .i64 (f1)), (.int .i64 (f2))]] W fun r w' => r = .returned ((.int .i64 (0))) ∧ Below W.heap.size W w'))
    (HT2 : Hid (∀ W : World, Calls Tryd.prog 41 #[.agg #[(.int .i64 (g1)), (.int .i64 (g2))]] W fun r w' => r = .returned ((.int .i64 (0))) ∧ Below W.heap.size W w'))
    (HW : Hid (∀ W : World, Calls Tryd.prog 39 #[.agg #[(.int .i64 (f1)), (.int .i64 (f2))], .agg #[(.int .i64 (g1)), (.int .i64 (g2))], (.int .i64 (1 + ad % 100))] W fun r w' => r = .returned (.tuple #[.agg #[(.int .i64 (d4)), (.int .i64 (1))], .agg #[(.int .i64 (d5)), (.int .i64 (1))], (.int .i64 (0))]) ∧ Below W.heap.size W w'))
    (ha : 0 ≤ ad ∧ ad ≤ 255)
    (q1 : 1 ≤ d1 ∧ d1 ≤ 50)
    (q3 : 1 ≤ d3 ∧ d3 ≤ 20)
    (q4 : 1 ≤ d4 ∧ d4 ≤ 100)
    (b1 : 1 ≤ k1 ∧ k1 ≤ 2147483648)
    (b2 : 1 ≤ k2 ∧ k2 ≤ 2147483648)
    (b3 : 1 ≤ k3 ∧ k3 ≤ 2147483648)
    (b4 : 1 ≤ k4 ∧ k4 ≤ 2147483648)
    (b5 : 1 ≤ k5 ∧ k5 ≤ 2147483648)
    (b6 : 1 ≤ k6 ∧ k6 ≤ 2147483648)
    (p1 : 0 ≤ k5 * k2 ∧ k5 * k2 ≤ k1 * k6 ∧ k1 * k6 ≤ 1000000000000000000)
    (p2 : 0 ≤ k5 * k4 ∧ k5 * k4 ≤ k3 * k6 ∧ k3 * k6 ≤ 1000000000000000000)
    (hX : 4 * d1 ≤ 50 ∧ 2 * d3 ≤ 20)
    (hY : d4 + (1 + ad % 100) ≤ 100)
    : Calls Tryd.prog 8 #[.agg #[(.int .i64 (d1)), (.int .i64 (d2)), (.int .i64 (d3)), (.int .i64 (d4)), (.int .i64 (d5)), (.int .i64 (d6))], .int .u8 ad] w fun r w' => r = .returned (.bool true) ∧ Below w.heap.size w w' := by
  have hB0 := Below.refl w.heap.size w
  go_enter Tryd.func8, Tryd.ntmps8
  go_wp2_with (go_at_call 11; refine (awake_any _ (hL.below (hB0.alloc hB0.size _))).mono ?_; rintro r w1 ⟨rfl, h1⟩; refine Hid.out ?_)
  unfold Hid
  have hB1 := (hB0.alloc hB0.size _).trans (h1.mono (Nat.le_trans hB0.size (by simp; try omega)))
  have KD_1 := Lib.hid (show Blk w1 (w.heap.size) #[(.int .i64 (d1)), (.int .i64 (d2)), (.int .i64 (d3)), (.int .i64 (d4)), (.int .i64 (d5)), (.int .i64 (d6))] from (Calm.Blk.new _ _ #[(.int .i64 (d1)), (.int .i64 (d2)), (.int .i64 (d3)), (.int .i64 (d4)), (.int .i64 (d5)), (.int .i64 (d6))]).below h1)
  clear h1 hB0
  have fD_0 := KD_1.out.cell 0 (.int .i64 (d1)) rfl
  have fD_1 := KD_1.out.cell 1 (.int .i64 (d2)) rfl
  have fD_2 := KD_1.out.cell 2 (.int .i64 (d3)) rfl
  have fD_3 := KD_1.out.cell 3 (.int .i64 (d4)) rfl
  have fD_4 := KD_1.out.cell 4 (.int .i64 (d5)) rfl
  have fD_5 := KD_1.out.cell 5 (.int .i64 (d6)) rfl
  have fD_l := KD_1.out.lt
  have fD_f := KD_1.out.f
  have fD_l0_1 : w.heap.size < w1.heap.size + 1 := by omega
  have fD_l0_2 : w.heap.size < w1.heap.size + 1 + 1 := by omega
  go_wp2_with (go_at_call 17; refine (HCD.out _).mono ?_; rintro r w2 ⟨rfl, h2⟩; refine Hid.out ?_)
  unfold Hid
  have hB2 := hB1.trans (h2.mono hB1.size)
  have KD_2 := Lib.hid (show Blk w2 (w.heap.size) #[(.int .i64 (d1)), (.int .i64 (d2)), (.int .i64 (d3)), (.int .i64 (d4)), (.int .i64 (d5)), (.int .i64 (d6))] from KD_1.out.below h2)
  clear h2 hB1 KD_1 fD_0 fD_1 fD_2 fD_3 fD_4 fD_5 fD_l fD_f fD_l0_1 fD_l0_2
  have fD_0 := KD_2.out.cell 0 (.int .i64 (d1)) rfl
  have fD_1 := KD_2.out.cell 1 (.int .i64 (d2)) rfl
  have fD_2 := KD_2.out.cell 2 (.int .i64 (d3)) rfl
  have fD_3 := KD_2.out.cell 3 (.int .i64 (d4)) rfl
  have fD_4 := KD_2.out.cell 4 (.int .i64 (d5)) rfl
  have fD_5 := KD_2.out.cell 5 (.int .i64 (d6)) rfl
  have fD_l := KD_2.out.lt
  have fD_f := KD_2.out.f
  have fD_l0_1 : w.heap.size < w2.heap.size + 1 := by omega
  have fD_l0_2 : w.heap.size < w2.heap.size + 1 + 1 := by omega
  go_wp2_with (go_at_call 38; refine (HQ.out _ (hL.below hB2)).mono ?_; rintro r w3 ⟨rfl, h3⟩; refine Hid.out ?_)
  unfold Hid
  have hB3 := hB2.trans (h3.mono hB2.size)
  have KD_3 := Lib.hid (show Blk w3 (w.heap.size) #[(.int .i64 (d1)), (.int .i64 (d2)), (.int .i64 (d3)), (.int .i64 (d4)), (.int .i64 (d5)), (.int .i64 (d6))] from KD_2.out.below h3)
  clear h3 hB2 KD_2 fD_0 fD_1 fD_2 fD_3 fD_4 fD_5 fD_l fD_f fD_l0_1 fD_l0_2
  go_wp2
  refine name_world ?_
  intro w4 e4
  have hB4 : Below w.heap.size w w4 := e4.symm ▸ (hB3.alloc hB3.size _)
  have oD_4 : w.heap.size < w3.heap.size := KD_3.out.lt
  have KD_4 := Lib.hid (show Blk w4 (w.heap.size) #[(.int .i64 (d1)), (.int .i64 (d2)), (.int .i64 (d3)), (.int .i64 (d4)), (.int .i64 (d5)), (.int .i64 (d6))] from e4.symm ▸ (KD_3.out.alloc _))
  have Kk_4 := Lib.hid (show Blk w4 (w3.heap.size) #[(.int .i64 (k1)), (.int .i64 (k2)), (.int .i64 (k3)), (.int .i64 (k4)), (.int .i64 (k5)), (.int .i64 (k6))] from e4.symm ▸ (Calm.Blk.new _ _ #[(.int .i64 (k1)), (.int .i64 (k2)), (.int .i64 (k3)), (.int .i64 (k4)), (.int .i64 (k5)), (.int .i64 (k6))]))
  have z4 : w3.heap.size + 1 ≤ w4.heap.size := by rw [e4]; simp
  clear e4 hB3 KD_3
  go_loopw [41] (fun i wr => ∃ k : Int, 0 ≤ k ∧ k ≤ 3 ∧ i = (.int .i64 (k)) ∧ Blk wr (w.heap.size) #[(.int .i64 (d1)), (.int .i64 (d2)), (.int .i64 (d3)), (.int .i64 (d4)), (.int .i64 (d5)), (.int .i64 (d6))] ∧ Blk wr (w3.heap.size) #[(.int .i64 (k1)), (.int .i64 (k2)), (.int .i64 (k3)), (.int .i64 (k4)), (.int .i64 (k5)), (.int .i64 (k6))] ∧ Below w.heap.size w wr) (fun i _ => 3 - (intOf i).toNat)
  case atStart => exact ⟨0, by omega, by omega, rfl, KD_4.out, Kk_4.out, hB4⟩
  case round =>
    clear KD_4 Kk_4 hB4
    obtain ⟨k, hk0, hk, rfl, hD, hK, hB⟩ := hrel
    have HD := Lib.hid hD
    have HK := Lib.hid hK
    clear hD hK
    have hkk : k = 0 ∨ k = 1 ∨ k = 2 ∨ k = 3 := by omega
    rcases hkk with rfl | rfl | rfl | rfl
    · have ix := wix0 k1 k2 k3 k4 k5 k6
      go_wp2
      go_roundw
      case rel => exact ⟨1, by omega, by omega, rfl, HD.out.alloc _, HK.out.alloc _, hB.alloc hB.size _⟩
      case measure => simp [intOf]
    · have ix := wix1 k1 k2 k3 k4 k5 k6
      go_wp2
      go_roundw
      case rel => exact ⟨2, by omega, by omega, rfl, HD.out.alloc _, HK.out.alloc _, hB.alloc hB.size _⟩
      case measure => simp [intOf]
    · have ix := wix2 k1 k2 k3 k4 k5 k6
      go_wp2
      go_roundw
      case rel => exact ⟨3, by omega, by omega, rfl, HD.out.alloc _, HK.out.alloc _, hB.alloc hB.size _⟩
      case measure => simp [intOf]
    · have hB9 := hB
      clear hB
      have fD_0 := HD.out.cell 0 (.int .i64 (d1)) rfl
      have fD_1 := HD.out.cell 1 (.int .i64 (d2)) rfl
      have fD_2 := HD.out.cell 2 (.int .i64 (d3)) rfl
      have fD_3 := HD.out.cell 3 (.int .i64 (d4)) rfl
      have fD_4 := HD.out.cell 4 (.int .i64 (d5)) rfl
      have fD_5 := HD.out.cell 5 (.int .i64 (d6)) rfl
      have fD_l := HD.out.lt
      have fD_f := HD.out.f
      have fD_l0_1 : w.heap.size < wr.heap.size + 1 := by omega
      have fD_l0_2 : w.heap.size < wr.heap.size + 1 + 1 := by omega
      have fD_l0_3 : w.heap.size < wr.heap.size + 1 + 1 + 1 := by omega
      have fk_0 := HK.out.cell 0 (.int .i64 (k1)) rfl
      have fk_1 := HK.out.cell 1 (.int .i64 (k2)) rfl
      have fk_2 := HK.out.cell 2 (.int .i64 (k3)) rfl
      have fk_3 := HK.out.cell 3 (.int .i64 (k4)) rfl
      have fk_4 := HK.out.cell 4 (.int .i64 (k5)) rfl
      have fk_5 := HK.out.cell 5 (.int .i64 (k6)) rfl
      have fk_l := HK.out.lt
      have fk_f := HK.out.f
      have fk_l0_1 : w3.heap.size < wr.heap.size + 1 := by omega
      have fk_l0_2 : w3.heap.size < wr.heap.size + 1 + 1 := by omega
      have fk_l0_3 : w3.heap.size < wr.heap.size + 1 + 1 + 1 := by omega
      go_wp2
      refine name_world ?_
      intro w5 e5
      have hB5 : Below w.heap.size w w5 := e5.symm ▸ (hB9.alloc hB9.size _)
      have oD_5 : w.heap.size < wr.heap.size := HD.out.lt
      have ok_5 : w3.heap.size < wr.heap.size := HK.out.lt
      have KD_5 := Lib.hid (show Blk w5 (w.heap.size) #[(.int .i64 (d1)), (.int .i64 (d2)), (.int .i64 (d3)), (.int .i64 (d4)), (.int .i64 (d5)), (.int .i64 (d6))] from e5.symm ▸ (HD.out.alloc _))
      have Kk_5 := Lib.hid (show Blk w5 (w3.heap.size) #[(.int .i64 (k1)), (.int .i64 (k2)), (.int .i64 (k3)), (.int .i64 (k4)), (.int .i64 (k5)), (.int .i64 (k6))] from e5.symm ▸ (HK.out.alloc _))
      have Ko_5 := Lib.hid (show Blk w5 (wr.heap.size) #[(.int .i64 (d1)), (.int .i64 (d2)), (.int .i64 (d3)), (.int .i64 (d4)), (.int .i64 (d5)), (.int .i64 (d6))] from e5.symm ▸ (Calm.Blk.new _ _ #[(.int .i64 (d1)), (.int .i64 (d2)), (.int .i64 (d3)), (.int .i64 (d4)), (.int .i64 (d5)), (.int .i64 (d6))]))
      have z5 : wr.heap.size + 1 ≤ w5.heap.size := by rw [e5]; simp
      clear e5 hB9 HD HK fD_0 fD_1 fD_2 fD_3 fD_4 fD_5 fD_l fD_f fD_l0_1 fD_l0_2 fD_l0_3 fk_0 fk_1 fk_2 fk_3 fk_4 fk_5 fk_l fk_f fk_l0_1 fk_l0_2 fk_l0_3
      have fD_0 := KD_5.out.cell 0 (.int .i64 (d1)) rfl
      have fD_1 := KD_5.out.cell 1 (.int .i64 (d2)) rfl
      have fD_2 := KD_5.out.cell 2 (.int .i64 (d3)) rfl
      have fD_3 := KD_5.out.cell 3 (.int .i64 (d4)) rfl
      have fD_4 := KD_5.out.cell 4 (.int .i64 (d5)) rfl
      have fD_5 := KD_5.out.cell 5 (.int .i64 (d6)) rfl
      have fD_l := KD_5.out.lt
      refine RelG.region3 (S := Keeps (wr.heap.size) #[(.int .i64 (4 * d1)), (.int .i64 (d2)), (.int .i64 (d3)), (.int .i64 (d4)), (.int .i64 (d5)), (.int .i64 (d6))]) Keeps.trans Keeps.drawn 8 (by kernel_rfl) (by kernel_rfl) (by kernel_rfl) ?_
      simp only [List.take_succ_cons, List.take_zero, List.drop_succ_cons, List.drop_zero, List.filterMap_cons, List.filterMap_nil]
      (apply RelG.op3 (Keeps.refl _ _); (focus (first | exact Rel.gno rfl | exact Rel.gyes _ true _ rfl rfl rfl)); (focus (intro a W hb hd hbase; obtain ⟨hc, hf⟩ := hb.old; clear hb hf; simp [Rel.deps, Rel.dep1, Rel.ons, Region.binds, Act.eval] at hd; simp only [Act.eval, List.mem_cons, List.not_mem_nil, not_or, and_imp, or_false, Array.getD_eq_getD_getElem?] at hbase; go_simp; (try go_bits); (try rfl); done)); (try simp only [List.nil_append, List.cons_append]))
      (apply RelG.op3 (Keeps.refl _ _); (focus (first | exact Rel.gno rfl | exact Rel.gyes _ true _ rfl rfl rfl)); (focus (intro a W hb hd hbase; obtain ⟨hc, hf⟩ := hb.old; clear hb hf; simp [Rel.deps, Rel.dep1, Rel.ons, Region.binds, Act.eval] at hd; simp only [Act.eval, List.mem_cons, List.not_mem_nil, not_or, and_imp, or_false, Array.getD_eq_getD_getElem?] at hbase; go_simp; (try go_bits); (try rfl); done)); (try simp only [List.nil_append, List.cons_append]))
      (apply RelG.op3 (Keeps.refl _ _); (focus (first | exact Rel.gno rfl | exact Rel.gyes _ true _ rfl rfl rfl)); (focus (intro a W hb hd hbase; obtain ⟨hc, hf⟩ := hb.old; clear hb hf; simp [Rel.deps, Rel.dep1, Rel.ons, Region.binds, Act.eval] at hd; simp only [Act.eval, List.mem_cons, List.not_mem_nil, not_or, and_imp, or_false, Array.getD_eq_getD_getElem?] at hbase; go_simp; (try go_bits); (try rfl); done)); (try simp only [List.nil_append, List.cons_append]))
      (apply RelG.op3 (Keeps.refl _ _); (focus (first | exact Rel.gno rfl | exact Rel.gyes _ true _ rfl rfl rfl)); (focus (intro a W hb hd hbase; obtain ⟨hc, hf⟩ := hb.old; clear hb hf; simp [Rel.deps, Rel.dep1, Rel.ons, Region.binds, Act.eval] at hd; simp only [Act.eval, List.mem_cons, List.not_mem_nil, not_or, and_imp, or_false, Array.getD_eq_getD_getElem?] at hbase; go_simp; (try go_bits); (try rfl); done)); (try simp only [List.nil_append, List.cons_append]))
      (apply RelG.op3 (Keeps.refl _ _); (focus (first | exact Rel.gno rfl | exact Rel.gyes _ true _ rfl rfl rfl)); (focus (intro a W hb hd hbase; obtain ⟨hc, hf⟩ := hb.old; clear hb hf; simp [Rel.deps, Rel.dep1, Rel.ons, Region.binds, Act.eval] at hd; simp only [Act.eval, List.mem_cons, List.not_mem_nil, not_or, and_imp, or_false, Array.getD_eq_getD_getElem?] at hbase; go_simp; (try go_bits); (try rfl); done)); (try simp only [List.nil_append, List.cons_append]))
      (apply RelG.op3 (Keeps.refl _ _); (focus (first | exact Rel.gno rfl | exact Rel.gyes _ true _ rfl rfl rfl)); (focus (intro a W hb hd hbase; obtain ⟨hc, hf⟩ := hb.old; clear hb hf; simp [Rel.deps, Rel.dep1, Rel.ons, Region.binds, Act.eval] at hd; simp only [Act.eval, List.mem_cons, List.not_mem_nil, not_or, and_imp, or_false, Array.getD_eq_getD_getElem?] at hbase; go_simp; (try go_bits); (try rfl); done)); (try simp only [List.nil_append, List.cons_append]))
      (apply RelG.op3 (Keeps.refl _ _); (focus (first | exact Rel.gno rfl | exact Rel.gyes _ true _ rfl rfl rfl)); (focus (intro a W hb hd hbase; obtain ⟨hc, hf⟩ := hb.old; clear hb hf; simp [Rel.deps, Rel.dep1, Rel.ons, Region.binds, Act.eval] at hd; simp only [Act.eval, List.mem_cons, List.not_mem_nil, not_or, and_imp, or_false, Array.getD_eq_getD_getElem?] at hbase; go_simp; (try go_bits); (try rfl); done)); (try simp only [List.nil_append, List.cons_append]))
      refine RelG.store3 (fun W => W.cell? ⟨wr.heap.size, 0, none⟩ = some (.int .i64 (4 * d1))) (fun W W' h hS => (hS.cell 0).elim (fun e => e.trans h) (fun e => e.1)) (Rel.gno rfl) ?_ ?_
      · intro a W hb hd hbase
        obtain ⟨u, hu⟩ := hb.has Ko_5.out rfl (i := 0) (by simp)
        have hfr := (hb.frozen 0).trans (Ko_5.out.f 0)
        have hS := Keeps.put (v := (.int .i64 (4 * d1))) hu (new := #[(.int .i64 (4 * d1)), (.int .i64 (d2)), (.int .i64 (d3)), (.int .i64 (d4)), (.int .i64 (d5)), (.int .i64 (d6))]) rfl
        have hgt := (World.cell?_setCell_same W _ (.int .i64 (4 * d1)) hu)
        refine ⟨W.setCell ⟨wr.heap.size, 0, none⟩ (.int .i64 (4 * d1)), ?_, hgt, hS⟩
        clear hS hgt hb
        simp [Rel.deps, Rel.dep1, Rel.ons, Region.binds, Act.eval] at hd; simp only [Act.eval, List.mem_cons, List.not_mem_nil, not_or, and_imp, or_false, Array.getD_eq_getD_getElem?] at hbase
        go_simp
      (try simp only [List.nil_append, List.cons_append])
      refine RelG.done3 ?_
      intro x w6 hS hx
      simp only [Rel.facts, Nat.zero_add, Nat.reduceAdd] at hx
      obtain ⟨e0, e1, e2, e3, e4, e5, e6, e7, _⟩ := hx
      simp only [RelG.fill, Nat.zero_add, Nat.reduceAdd, e0, e1, e2, e3, e4, e5, e6]
      simp only [Act.put, List.setIfInBounds_toArray, List.set_cons_zero, List.set_cons_succ]
      have hB6 := hB5.trans (hS.below.mono (by omega))
      have KD_6 := Lib.hid (show Blk w6 (w.heap.size) #[(.int .i64 (d1)), (.int .i64 (d2)), (.int .i64 (d3)), (.int .i64 (d4)), (.int .i64 (d5)), (.int .i64 (d6))] from KD_5.out.sub hS.below (by omega))
      have Kk_6 := Lib.hid (show Blk w6 (w3.heap.size) #[(.int .i64 (k1)), (.int .i64 (k2)), (.int .i64 (k3)), (.int .i64 (k4)), (.int .i64 (k5)), (.int .i64 (k6))] from Kk_5.out.sub hS.below (by omega))
      have Ko_6 := Lib.hid (hS.blk Ko_5.out (fun i => by match i with | 0 => exact .inr e7 | 1 => exact .inl rfl | 2 => exact .inl rfl | 3 => exact .inl rfl | 4 => exact .inl rfl | 5 => exact .inl rfl | i + 6 => exact .inl rfl))
      clear e0 e1 e2 e3 e4 e5 e6 e7 hS hB5 KD_5 Kk_5 Ko_5 fD_0 fD_1 fD_2 fD_3 fD_4 fD_5 fD_l
      have fo_0 := Ko_6.out.cell 0 (.int .i64 (4 * d1)) rfl
      have fo_1 := Ko_6.out.cell 1 (.int .i64 (d2)) rfl
      have fo_2 := Ko_6.out.cell 2 (.int .i64 (d3)) rfl
      have fo_3 := Ko_6.out.cell 3 (.int .i64 (d4)) rfl
      have fo_4 := Ko_6.out.cell 4 (.int .i64 (d5)) rfl
      have fo_5 := Ko_6.out.cell 5 (.int .i64 (d6)) rfl
      have fo_l := Ko_6.out.lt
      have fo_f := Ko_6.out.f
      have fo_l0_1 : wr.heap.size < w6.heap.size + 1 := by omega
      have fo_l0_2 : wr.heap.size < w6.heap.size + 1 + 1 := by omega
      have fo_l0_3 : wr.heap.size < w6.heap.size + 1 + 1 + 1 := by omega
      go_wp2_with (go_at_call 38; refine (HQO.out _ (hL.below (hB6.setCell (p := ⟨wr.heap.size, 2, none⟩) (show w.heap.size ≤ wr.heap.size from by have := hB6.size; omega) (.int .i64 (2 * d3))))).mono ?_; rintro r w7 ⟨rfl, h7⟩; refine Hid.out ?_)
      unfold Hid
      have hB7 := (hB6.setCell (p := ⟨wr.heap.size, 2, none⟩) (show w.heap.size ≤ wr.heap.size from by have := hB6.size; omega) (.int .i64 (2 * d3))).trans (h7.mono (Nat.le_trans hB6.size (by simp; try omega)))
      have KD_7 := Lib.hid (show Blk w7 (w.heap.size) #[(.int .i64 (d1)), (.int .i64 (d2)), (.int .i64 (d3)), (.int .i64 (d4)), (.int .i64 (d5)), (.int .i64 (d6))] from (KD_6.out.far (p := ⟨wr.heap.size, 2, none⟩) (show wr.heap.size ≠ w.heap.size from by omega) (.int .i64 (2 * d3))).below h7)
      have Kk_7 := Lib.hid (show Blk w7 (w3.heap.size) #[(.int .i64 (k1)), (.int .i64 (k2)), (.int .i64 (k3)), (.int .i64 (k4)), (.int .i64 (k5)), (.int .i64 (k6))] from (Kk_6.out.far (p := ⟨wr.heap.size, 2, none⟩) (show wr.heap.size ≠ w3.heap.size from by omega) (.int .i64 (2 * d3))).below h7)
      have Ko_7 := Lib.hid (show Blk w7 (wr.heap.size) #[(.int .i64 (4 * d1)), (.int .i64 (d2)), (.int .i64 (2 * d3)), (.int .i64 (d4)), (.int .i64 (d5)), (.int .i64 (d6))] from (Ko_6.out.set (i := 2) (by simp) (.int .i64 (2 * d3))).below h7)
      clear h7 hB6 KD_6 Kk_6 Ko_6 fo_0 fo_1 fo_2 fo_3 fo_4 fo_5 fo_l fo_f fo_l0_1 fo_l0_2 fo_l0_3
      have fD_0 := KD_7.out.cell 0 (.int .i64 (d1)) rfl
      have fD_1 := KD_7.out.cell 1 (.int .i64 (d2)) rfl
      have fD_2 := KD_7.out.cell 2 (.int .i64 (d3)) rfl
      have fD_3 := KD_7.out.cell 3 (.int .i64 (d4)) rfl
      have fD_4 := KD_7.out.cell 4 (.int .i64 (d5)) rfl
      have fD_5 := KD_7.out.cell 5 (.int .i64 (d6)) rfl
      have fD_l := KD_7.out.lt
      have fD_f := KD_7.out.f
      have fD_l0_1 : w.heap.size < w7.heap.size + 1 := by omega
      have fD_l0_2 : w.heap.size < w7.heap.size + 1 + 1 := by omega
      have fD_l0_3 : w.heap.size < w7.heap.size + 1 + 1 + 1 := by omega
      have fD_l0_4 : w.heap.size < w7.heap.size + 1 + 1 + 1 + 1 := by omega
      have fk_0 := Kk_7.out.cell 0 (.int .i64 (k1)) rfl
      have fk_1 := Kk_7.out.cell 1 (.int .i64 (k2)) rfl
      have fk_2 := Kk_7.out.cell 2 (.int .i64 (k3)) rfl
      have fk_3 := Kk_7.out.cell 3 (.int .i64 (k4)) rfl
      have fk_4 := Kk_7.out.cell 4 (.int .i64 (k5)) rfl
      have fk_5 := Kk_7.out.cell 5 (.int .i64 (k6)) rfl
      have fk_l := Kk_7.out.lt
      have fk_f := Kk_7.out.f
      have fk_l0_1 : w3.heap.size < w7.heap.size + 1 := by omega
      have fk_l0_2 : w3.heap.size < w7.heap.size + 1 + 1 := by omega
      have fk_l0_3 : w3.heap.size < w7.heap.size + 1 + 1 + 1 := by omega
      have fk_l0_4 : w3.heap.size < w7.heap.size + 1 + 1 + 1 + 1 := by omega
      go_wp2_with (go_at_call 37; refine (HR1.out _ (hL.below ((hB7.alloc hB7.size _).alloc (Nat.le_trans hB7.size (by simp; try omega)) _))).mono ?_; rintro r w8 ⟨rfl, h8⟩; refine Hid.out ?_)
      unfold Hid
      have hB8 := ((hB7.alloc hB7.size _).alloc (Nat.le_trans hB7.size (by simp; try omega)) _).trans (h8.mono (Nat.le_trans hB7.size (by simp; try omega)))
      have oD_8 : w.heap.size < w7.heap.size := KD_7.out.lt
      have ok_8 : w3.heap.size < w7.heap.size := Kk_7.out.lt
      have oo_8 : wr.heap.size < w7.heap.size := Ko_7.out.lt
      have KD_8 := Lib.hid (show Blk w8 (w.heap.size) #[(.int .i64 (d1)), (.int .i64 (d2)), (.int .i64 (d3)), (.int .i64 (d4)), (.int .i64 (d5)), (.int .i64 (d6))] from ((KD_7.out.alloc _).alloc _).below h8)
      have Kk_8 := Lib.hid (show Blk w8 (w3.heap.size) #[(.int .i64 (k1)), (.int .i64 (k2)), (.int .i64 (k3)), (.int .i64 (k4)), (.int .i64 (k5)), (.int .i64 (k6))] from ((Kk_7.out.alloc _).alloc _).below h8)
      have Ko_8 := Lib.hid (show Blk w8 (wr.heap.size) #[(.int .i64 (4 * d1)), (.int .i64 (d2)), (.int .i64 (2 * d3)), (.int .i64 (d4)), (.int .i64 (d5)), (.int .i64 (d6))] from ((Ko_7.out.alloc _).alloc _).below h8)
      have Kq_8 := Lib.hid (show Blk w8 (w7.heap.size) #[(.int .i64 (k1)), (.int .i64 (k2)), (.int .i64 (k3)), (.int .i64 (k4)), (.int .i64 (k7)), (.int .i64 (k8))] from ((Calm.Blk.new _ _ #[(.int .i64 (k1)), (.int .i64 (k2)), (.int .i64 (k3)), (.int .i64 (k4)), (.int .i64 (k7)), (.int .i64 (k8))]).alloc _).below h8)
      have Kl_8 := Lib.hid (show Blk w8 (w7.heap.size + 1) #[(.int .i64 (d1)), (.int .i64 (d2)), (.int .i64 (d3)), (.int .i64 (d4 + (1 + ad % 100))), (.int .i64 (d5)), (.int .i64 (d6))] by have := (Calm.Blk.new _ _ #[(.int .i64 (d1)), (.int .i64 (d2)), (.int .i64 (d3)), (.int .i64 (d4 + (1 + ad % 100))), (.int .i64 (d5)), (.int .i64 (d6))]).below h8; simpa using this)
      clear h8 hB7 KD_7 Kk_7 Ko_7 fD_0 fD_1 fD_2 fD_3 fD_4 fD_5 fD_l fD_f fD_l0_1 fD_l0_2 fD_l0_3 fD_l0_4 fk_0 fk_1 fk_2 fk_3 fk_4 fk_5 fk_l fk_f fk_l0_1 fk_l0_2 fk_l0_3 fk_l0_4
      have fl_0 := Kl_8.out.cell 0 (.int .i64 (d1)) rfl
      have fl_1 := Kl_8.out.cell 1 (.int .i64 (d2)) rfl
      have fl_2 := Kl_8.out.cell 2 (.int .i64 (d3)) rfl
      have fl_3 := Kl_8.out.cell 3 (.int .i64 (d4 + (1 + ad % 100))) rfl
      have fl_4 := Kl_8.out.cell 4 (.int .i64 (d5)) rfl
      have fl_5 := Kl_8.out.cell 5 (.int .i64 (d6)) rfl
      have fl_l := Kl_8.out.lt
      have fl_f := Kl_8.out.f
      have fl_l0 : w7.heap.size < w8.heap.size := by omega
      have fl_l0_1 : w7.heap.size < w8.heap.size + 1 := by omega
      have fl_l0_2 : w7.heap.size < w8.heap.size + 1 + 1 := by omega
      have fl_l1_1 : w7.heap.size + 1 < w8.heap.size + 1 := by omega
      have fl_l1_2 : w7.heap.size + 1 < w8.heap.size + 1 + 1 := by omega
      go_wp2_with (go_at_call 37; refine (HR2.out _ (hL.below (hB8.alloc hB8.size _))).mono ?_; rintro r w9 ⟨rfl, h9⟩; refine Hid.out ?_)
      unfold Hid
      have hB9 := (hB8.alloc hB8.size _).trans (h9.mono (Nat.le_trans hB8.size (by simp; try omega)))
      have oD_9 : w.heap.size < w8.heap.size := KD_8.out.lt
      have ok_9 : w3.heap.size < w8.heap.size := Kk_8.out.lt
      have oo_9 : wr.heap.size < w8.heap.size := Ko_8.out.lt
      have oq_9 : w7.heap.size < w8.heap.size := Kq_8.out.lt
      have ol_9 : w7.heap.size + 1 < w8.heap.size := Kl_8.out.lt
      have KD_9 := Lib.hid (show Blk w9 (w.heap.size) #[(.int .i64 (d1)), (.int .i64 (d2)), (.int .i64 (d3)), (.int .i64 (d4)), (.int .i64 (d5)), (.int .i64 (d6))] from (KD_8.out.alloc _).below h9)
      have Kk_9 := Lib.hid (show Blk w9 (w3.heap.size) #[(.int .i64 (k1)), (.int .i64 (k2)), (.int .i64 (k3)), (.int .i64 (k4)), (.int .i64 (k5)), (.int .i64 (k6))] from (Kk_8.out.alloc _).below h9)
      have Ko_9 := Lib.hid (show Blk w9 (wr.heap.size) #[(.int .i64 (4 * d1)), (.int .i64 (d2)), (.int .i64 (2 * d3)), (.int .i64 (d4)), (.int .i64 (d5)), (.int .i64 (d6))] from (Ko_8.out.alloc _).below h9)
      have Kq_9 := Lib.hid (show Blk w9 (w7.heap.size) #[(.int .i64 (k1)), (.int .i64 (k2)), (.int .i64 (k3)), (.int .i64 (k4)), (.int .i64 (k7)), (.int .i64 (k8))] from (Kq_8.out.alloc _).below h9)
      have Kl_9 := Lib.hid (show Blk w9 (w7.heap.size + 1) #[(.int .i64 (d1)), (.int .i64 (d2)), (.int .i64 (d3)), (.int .i64 (d4 + (1 + ad % 100))), (.int .i64 (d5)), (.int .i64 (d6))] from (Kl_8.out.alloc _).below h9)
      have Kf_9 := Lib.hid (show Blk w9 (w8.heap.size) #[(.int .i64 (f1)), (.int .i64 (f2))] from (Calm.Blk.new _ _ #[(.int .i64 (f1)), (.int .i64 (f2))]).below h9)
      clear h9 hB8 KD_8 Kk_8 Ko_8 Kq_8 Kl_8 fl_0 fl_1 fl_2 fl_3 fl_4 fl_5 fl_l fl_f fl_l0 fl_l0_1 fl_l0_2 fl_l1_1 fl_l1_2
      have ff_0 := Kf_9.out.cell 0 (.int .i64 (f1)) rfl
      have ff_1 := Kf_9.out.cell 1 (.int .i64 (f2)) rfl
      have ff_l := Kf_9.out.lt
      have ff_f := Kf_9.out.f
      have ff_l0_1 : w8.heap.size < w9.heap.size + 1 := by omega
      have ff_l0_2 : w8.heap.size < w9.heap.size + 1 + 1 := by omega
      go_wp2_with (go_at_call 41; refine (HT1.out _).mono ?_; rintro r w10 ⟨rfl, h10⟩; refine Hid.out ?_)
      unfold Hid
      have hB10 := (hB9.alloc hB9.size _).trans (h10.mono (Nat.le_trans hB9.size (by simp; try omega)))
      have oD_10 : w.heap.size < w9.heap.size := KD_9.out.lt
      have ok_10 : w3.heap.size < w9.heap.size := Kk_9.out.lt
      have oo_10 : wr.heap.size < w9.heap.size := Ko_9.out.lt
      have oq_10 : w7.heap.size < w9.heap.size := Kq_9.out.lt
      have ol_10 : w7.heap.size + 1 < w9.heap.size := Kl_9.out.lt
      have of_10 : w8.heap.size < w9.heap.size := Kf_9.out.lt
      have KD_10 := Lib.hid (show Blk w10 (w.heap.size) #[(.int .i64 (d1)), (.int .i64 (d2)), (.int .i64 (d3)), (.int .i64 (d4)), (.int .i64 (d5)), (.int .i64 (d6))] from (KD_9.out.alloc _).below h10)
      have Kk_10 := Lib.hid (show Blk w10 (w3.heap.size) #[(.int .i64 (k1)), (.int .i64 (k2)), (.int .i64 (k3)), (.int .i64 (k4)), (.int .i64 (k5)), (.int .i64 (k6))] from (Kk_9.out.alloc _).below h10)
      have Ko_10 := Lib.hid (show Blk w10 (wr.heap.size) #[(.int .i64 (4 * d1)), (.int .i64 (d2)), (.int .i64 (2 * d3)), (.int .i64 (d4)), (.int .i64 (d5)), (.int .i64 (d6))] from (Ko_9.out.alloc _).below h10)
      have Kq_10 := Lib.hid (show Blk w10 (w7.heap.size) #[(.int .i64 (k1)), (.int .i64 (k2)), (.int .i64 (k3)), (.int .i64 (k4)), (.int .i64 (k7)), (.int .i64 (k8))] from (Kq_9.out.alloc _).below h10)
      have Kl_10 := Lib.hid (show Blk w10 (w7.heap.size + 1) #[(.int .i64 (d1)), (.int .i64 (d2)), (.int .i64 (d3)), (.int .i64 (d4 + (1 + ad % 100))), (.int .i64 (d5)), (.int .i64 (d6))] from (Kl_9.out.alloc _).below h10)
      have Kf_10 := Lib.hid (show Blk w10 (w8.heap.size) #[(.int .i64 (f1)), (.int .i64 (f2))] from (Kf_9.out.alloc _).below h10)
      have Kg_10 := Lib.hid (show Blk w10 (w9.heap.size) #[(.int .i64 (g1)), (.int .i64 (g2))] from (Calm.Blk.new _ _ #[(.int .i64 (g1)), (.int .i64 (g2))]).below h10)
      clear h10 hB9 KD_9 Kk_9 Ko_9 Kq_9 Kl_9 Kf_9 ff_0 ff_1 ff_l ff_f ff_l0_1 ff_l0_2
      have ff_0 := Kf_10.out.cell 0 (.int .i64 (f1)) rfl
      have ff_1 := Kf_10.out.cell 1 (.int .i64 (f2)) rfl
      have ff_l := Kf_10.out.lt
      have ff_f := Kf_10.out.f
      have ff_l0_1 : w8.heap.size < w10.heap.size + 1 := by omega
      have ff_l0_2 : w8.heap.size < w10.heap.size + 1 + 1 := by omega
      have fg_0 := Kg_10.out.cell 0 (.int .i64 (g1)) rfl
      have fg_1 := Kg_10.out.cell 1 (.int .i64 (g2)) rfl
      have fg_l := Kg_10.out.lt
      have fg_f := Kg_10.out.f
      have fg_l0_1 : w9.heap.size < w10.heap.size + 1 := by omega
      have fg_l0_2 : w9.heap.size < w10.heap.size + 1 + 1 := by omega
      go_wp2_with (go_at_call 41; refine (HT2.out _).mono ?_; rintro r w11 ⟨rfl, h11⟩; refine Hid.out ?_)
      unfold Hid
      have hB11 := hB10.trans (h11.mono hB10.size)
      have KD_11 := Lib.hid (show Blk w11 (w.heap.size) #[(.int .i64 (d1)), (.int .i64 (d2)), (.int .i64 (d3)), (.int .i64 (d4)), (.int .i64 (d5)), (.int .i64 (d6))] from KD_10.out.below h11)
      have Kk_11 := Lib.hid (show Blk w11 (w3.heap.size) #[(.int .i64 (k1)), (.int .i64 (k2)), (.int .i64 (k3)), (.int .i64 (k4)), (.int .i64 (k5)), (.int .i64 (k6))] from Kk_10.out.below h11)
      have Ko_11 := Lib.hid (show Blk w11 (wr.heap.size) #[(.int .i64 (4 * d1)), (.int .i64 (d2)), (.int .i64 (2 * d3)), (.int .i64 (d4)), (.int .i64 (d5)), (.int .i64 (d6))] from Ko_10.out.below h11)
      have Kq_11 := Lib.hid (show Blk w11 (w7.heap.size) #[(.int .i64 (k1)), (.int .i64 (k2)), (.int .i64 (k3)), (.int .i64 (k4)), (.int .i64 (k7)), (.int .i64 (k8))] from Kq_10.out.below h11)
      have Kl_11 := Lib.hid (show Blk w11 (w7.heap.size + 1) #[(.int .i64 (d1)), (.int .i64 (d2)), (.int .i64 (d3)), (.int .i64 (d4 + (1 + ad % 100))), (.int .i64 (d5)), (.int .i64 (d6))] from Kl_10.out.below h11)
      have Kf_11 := Lib.hid (show Blk w11 (w8.heap.size) #[(.int .i64 (f1)), (.int .i64 (f2))] from Kf_10.out.below h11)
      have Kg_11 := Lib.hid (show Blk w11 (w9.heap.size) #[(.int .i64 (g1)), (.int .i64 (g2))] from Kg_10.out.below h11)
      clear h11 hB10 KD_10 Kk_10 Ko_10 Kq_10 Kl_10 Kf_10 Kg_10 ff_0 ff_1 ff_l ff_f ff_l0_1 ff_l0_2 fg_0 fg_1 fg_l fg_f fg_l0_1 fg_l0_2
      have ff_0 := Kf_11.out.cell 0 (.int .i64 (f1)) rfl
      have ff_1 := Kf_11.out.cell 1 (.int .i64 (f2)) rfl
      have ff_l := Kf_11.out.lt
      have ff_f := Kf_11.out.f
      have ff_l0_1 : w8.heap.size < w11.heap.size + 1 := by omega
      have ff_l0_2 : w8.heap.size < w11.heap.size + 1 + 1 := by omega
      have fg_0 := Kg_11.out.cell 0 (.int .i64 (g1)) rfl
      have fg_1 := Kg_11.out.cell 1 (.int .i64 (g2)) rfl
      have fg_l := Kg_11.out.lt
      have fg_f := Kg_11.out.f
      have fg_l0_1 : w9.heap.size < w11.heap.size + 1 := by omega
      have fg_l0_2 : w9.heap.size < w11.heap.size + 1 + 1 := by omega
      go_wp2_with (go_at_call 39; refine (HW.out _).mono ?_; rintro r w12 ⟨rfl, h12⟩; refine Hid.out ?_)
      unfold Hid
      have hB12 := hB11.trans (h12.mono hB11.size)
      have KD_12 := Lib.hid (show Blk w12 (w.heap.size) #[(.int .i64 (d1)), (.int .i64 (d2)), (.int .i64 (d3)), (.int .i64 (d4)), (.int .i64 (d5)), (.int .i64 (d6))] from KD_11.out.below h12)
      have Kk_12 := Lib.hid (show Blk w12 (w3.heap.size) #[(.int .i64 (k1)), (.int .i64 (k2)), (.int .i64 (k3)), (.int .i64 (k4)), (.int .i64 (k5)), (.int .i64 (k6))] from Kk_11.out.below h12)
      have Ko_12 := Lib.hid (show Blk w12 (wr.heap.size) #[(.int .i64 (4 * d1)), (.int .i64 (d2)), (.int .i64 (2 * d3)), (.int .i64 (d4)), (.int .i64 (d5)), (.int .i64 (d6))] from Ko_11.out.below h12)
      have Kq_12 := Lib.hid (show Blk w12 (w7.heap.size) #[(.int .i64 (k1)), (.int .i64 (k2)), (.int .i64 (k3)), (.int .i64 (k4)), (.int .i64 (k7)), (.int .i64 (k8))] from Kq_11.out.below h12)
      have Kl_12 := Lib.hid (show Blk w12 (w7.heap.size + 1) #[(.int .i64 (d1)), (.int .i64 (d2)), (.int .i64 (d3)), (.int .i64 (d4 + (1 + ad % 100))), (.int .i64 (d5)), (.int .i64 (d6))] from Kl_11.out.below h12)
      have Kf_12 := Lib.hid (show Blk w12 (w8.heap.size) #[(.int .i64 (f1)), (.int .i64 (f2))] from Kf_11.out.below h12)
      have Kg_12 := Lib.hid (show Blk w12 (w9.heap.size) #[(.int .i64 (g1)), (.int .i64 (g2))] from Kg_11.out.below h12)
      clear h12 hB11 KD_11 Kk_11 Ko_11 Kq_11 Kl_11 Kf_11 Kg_11 ff_0 ff_1 ff_l ff_f ff_l0_1 ff_l0_2 fg_0 fg_1 fg_l fg_f fg_l0_1 fg_l0_2
      have fD_0 := KD_12.out.cell 0 (.int .i64 (d1)) rfl
      have fD_1 := KD_12.out.cell 1 (.int .i64 (d2)) rfl
      have fD_2 := KD_12.out.cell 2 (.int .i64 (d3)) rfl
      have fD_3 := KD_12.out.cell 3 (.int .i64 (d4)) rfl
      have fD_4 := KD_12.out.cell 4 (.int .i64 (d5)) rfl
      have fD_5 := KD_12.out.cell 5 (.int .i64 (d6)) rfl
      have fD_l := KD_12.out.lt
      have fD_f := KD_12.out.f
      have fD_l0_1 : w.heap.size < w12.heap.size + 1 := by omega
      have fD_l0_2 : w.heap.size < w12.heap.size + 1 + 1 := by omega
      have fD_l0_3 : w.heap.size < w12.heap.size + 1 + 1 + 1 := by omega
      go_wp2
      go_ret
      exact ⟨by first | rfl | (simp; done), ((hB12.alloc hB12.size _).alloc (Nat.le_trans hB12.size (by simp; try omega)) _)⟩
end Go.Proofs.YtpkldjlljoledaaDoor
