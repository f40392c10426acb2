/- Part 3 of the texts of the claim: RelG, Turn, P3. -/
import Derived.Test.YtdeapbihbhoefaaGreatDoorMt2

/- Regions whose order is open, the world turning along any relation S (reflexive, transitive): stores in the head. Printed by relg.py. -/
namespace Go.Proofs.YtdeapbihbhoefaaGreatDoor.RelG
open Go.RowKit
open Rel (Know dst puts upd puts_agree puts_put Apart apart_of puts_new put_size puts_size puts_other eval_put_same puts_here wanted_of GOK countP_upd left Ln okB sizeB all_listed listed_Ln some_ready fill fill_puts Ctx dep1 deps deps_of facts facts_of ons GOK3)

/-- .. and stays known along S. -/
def Stable (S : World → World → Prop) (R : Know) : Prop := ∀ v W W', R v W → S W W' → R v W'

section
variable {P : Program} {ops : Array Oper} {S : World → World → Prop}

/-- What an operation of the head must show: wherever it comes up. -/
def Ob (S : World → World → Prop) (P : Program) (ops : Array Oper) (n : Nat) (w0 : World) (a0 : Act) (Γ : List Know) (o : Oper) (R : Know) : Prop :=
  ∀ (a : Act) (W : World), S w0 W → a.tmps.size = a0.tmps.size →
    (∀ e ∈ o.after, Region.binds .any e = true → ∀ t, dst ops e.on = some t → ∀ K, Γ[e.on]? = some K → K (a.eval (.tmp t)) W) →
    (∀ t, (∀ j, j < n → dst ops j ≠ some t) → a.eval (.tmp t) = a0.eval (.tmp t)) →
    ∀ (K : Act → World → Prop) (Q : Exit → Act → World → Prop), (∀ v W', R v W' → S W W' → K (a.put o.dst v) W') → o.wp P a W K Q


/-- The walk in the order of the text: at each operation something that stays known is chosen. -/
def walk (S : World → World → Prop) (P : Program) (ops : Array Oper) (n : Nat) (w0 : World) (a0 : Act) (T : List Know → Prop) : List Know → List Oper → Prop
  | Γ, [] => T Γ
  | Γ, o :: l => ∃ R, Stable S R ∧ GOK ops Γ o ∧ (dst ops Γ.length = o.dst → Ob S P ops n w0 a0 Γ o R) ∧ walk S P ops n w0 a0 T (Γ ++ [R]) l


theorem walk_all {n : Nat} {w0 : World} {a0 : Act} {T : List Know → Prop} : ∀ (l : List Oper) (Γ : List Know), walk S P ops n w0 a0 T Γ l →
    ∃ Δ : List Know, Δ.length = l.length ∧ T (Γ ++ Δ) ∧ ∀ k o, l[k]? = some o → ∃ R, Δ[k]? = some R ∧ Stable S R ∧ GOK ops (Γ ++ Δ.take k) o ∧ (dst ops (Γ.length + k) = o.dst → Ob S P ops n w0 a0 (Γ ++ Δ.take k) o R)
  | [], Γ, h => ⟨[], rfl, by simpa [walk] using h, fun k o hk => by simp at hk⟩
  | o :: l, Γ, h => by
    obtain ⟨R, hs, hg, hob, hw⟩ := h
    obtain ⟨Δ, hl, hT, hall⟩ := walk_all l _ hw
    refine ⟨R :: Δ, by simp [hl], by simpa using hT, fun k o' hk => ?_⟩
    cases k with
    | zero =>
      obtain rfl : o = o' := by simpa using hk
      exact ⟨R, rfl, hs, by simpa using hg, by simpa using hob⟩
    | succ k =>
      obtain ⟨R', h1, h2, h3, h4⟩ := hall k o' (by simpa using hk)
      refine ⟨R', by simpa using h1, h2, by simpa using h3, fun hd => ?_⟩
      have := h4 (by rw [← hd]; congr 1; simp; omega)
      simpa using this

theorem Ob.mono {n : Nat} {w0 : World} {a0 : Act} {Γ Δ : List Know} {o : Oper} {R : Know} (h : Ob S P ops n w0 a0 Γ o R) (hsub : ∀ e ∈ o.after, ∀ K, Γ[e.on]? = some K → Δ[e.on]? = some K) : Ob S P ops n w0 a0 Δ o R :=
  fun a W hb hz hd hbase K Q hK => h a W hb hz (fun e he hbd t ht K' hK' => hd e he hbd t ht K' (hsub e he K' hK')) hbase K Q hK

/-- What holds while the head is on its way. -/
structure Inv (S : World → World → Prop) (ops : Array Oper) (n : Nat) (w0 : World) (a0 : Act) (Γ : List Know) (listed : Array Bool) (a : Act) (W : World) : Prop where
  below : S w0 W
  vals : ∃ x : Nat → Value, a = puts ops x (fun j => listed.getD j false) (List.range n) a0 ∧ ∀ j, j < n → listed.getD j false = true → ∀ K, Γ[j]? = some K → K (x j) W


theorem go (ht' : ∀ a b c, S a b → S b c → S a c) {n : Nat} {Q : Exit → Act → World → Prop} {w0 : World} {a0 : Act} {Γ : List Know} (hok : okB ops n = true) (hsz : sizeB ops n a0.tmps.size = true)
    (hΓ : ∀ k, k < n → ∃ o R, ops[k]? = some o ∧ Γ[k]? = some R ∧ Stable S R ∧ GOK ops Γ o ∧ Ob S P ops n w0 a0 Γ o R)
    (hend : ∀ (x : Nat → Value) (W : World), S w0 W → (∀ j, j < n → ∀ K, Γ[j]? = some K → K (x j) W) → wpAny P .any ops Q (ops.size - n) (Ln n ops.size) (puts ops x (fun _ => true) (List.range n) a0) W) :
    ∀ (f : Nat) (listed : Array Bool) (a : Act) (W : World), HeadInv .any ops n listed → left n listed = f → Inv S ops n w0 a0 Γ listed a W → wpAny P .any ops Q (f + (ops.size - n)) listed a W := by
  simp only [okB, Bool.and_eq_true, decide_eq_true_eq] at hok
  obtain ⟨⟨⟨⟨⟨hn, hs⟩, hc⟩, _⟩, hap⟩, hback⟩ := hok
  have hap := apart_of hap
  intro f
  induction f with
  | zero =>
    intro listed a W inv hl hI
    obtain ⟨hb, x, rfl, hx⟩ := hI
    have hall := all_listed hl
    rw [Nat.zero_add]
    rw [puts_agree (p' := fun _ => true) (x' := x) (List.range n) a0 (fun j hj => ⟨hall j (List.mem_range.1 hj), fun _ => rfl⟩), listed_Ln inv hl (by omega)]
    exact hend x W hb (fun j hj K hK => hx j hj (hall j hj) K hK)
  | succ f ih =>
    intro listed a W inv hl hI
    have hex : ∃ k, k < n ∧ listed.getD k true = false := by
      apply Classical.byContradiction
      intro hno
      have : left n listed = 0 := List.countP_eq_zero.2 (fun j hj => by
        have hj := List.mem_range.1 hj
        have hjs : j < listed.size := by rw [inv.size]; omega
        cases h : listed.getD j false with
        | true => simp
        | false => exact absurd ⟨j, hj, getD_in hjs h⟩ hno)
      omega
    obtain ⟨k, hk, hun⟩ := hex
    rw [show f + 1 + (ops.size - n) = (f + (ops.size - n)) + 1 by omega]
    refine ⟨fun h0 => ?_, fun i hi => ?_⟩
    · obtain ⟨i, hi⟩ := some_ready inv hback hn (k + 1) k (by omega) hk hun
      rw [h0] at hi
      cases hi
    have hin : i < n := by
      rcases Nat.lt_or_ge i n with h | h
      · exact h
      · exact absurd hi (tail_waits hs hc hn inv _ k rfl hk hun i h)
    obtain ⟨hiun, oi, hoi, hdeps⟩ := mem_ready.1 hi
    obtain ⟨o, R, ho, hR, hst, hg, hob⟩ := hΓ i hin
    obtain rfl : oi = o := Option.some.inj (hoi.symm.trans ho)
    obtain ⟨hb, x, rfl, hx⟩ := hI
    have hdi : dst ops i = oi.dst := by simp [dst, ho]
    have his : i < listed.size := by rw [inv.size]; omega
    have hif : listed.getD i false = false := getD_both hiun
    have hszt : ∀ j t, j < n → dst ops j = some t → t < a0.tmps.size := fun j t hj hd => by
      have := List.all_eq_true.1 hsz j (List.mem_range.2 hj)
      simpa [hd] using this
    have back : ∀ e ∈ oi.after, Region.binds .any e = true → e.on < i := fun e he hbd => by
      have h1 := List.all_eq_true.1 hback i (List.mem_range.2 (by omega))
      simp only [ho] at h1
      simpa [hbd] using Array.all_eq_true'.1 h1 e he
    unfold wpOp
    simp only [ho]
    have hwant : Region.wanted oi (yielded ops (puts ops x (fun j => listed.getD j false) (List.range n) a0).tmps) = true := by
      rcases hg with hg | ⟨g, b, t, hg, ⟨e, he, hbd, rfl⟩, hd, hK⟩
      · simp [Region.wanted, hg]
      · have hel := hdeps e he hbd
        have hen : e.on < n := by have := back e he hbd; omega
        have h1 := puts_here (x := x) (p := fun j => listed.getD j false) hap hen hel hd (List.range n) a0 (List.nodup_range) (List.mem_range.2 hen) (fun j hj => List.mem_range.1 hj) (hszt _ _ hen hd)
        have h2 : x e.on = .bool b := hx e.on hen hel _ hK
        have h3 : t < (puts ops x (fun j => listed.getD j false) (List.range n) a0).tmps.size := by rw [puts_size]; exact hszt _ _ hen hd
        rw [h2] at h1
        exact wanted_of hg hd h1 h3
    rw [if_pos hwant]
    refine .inl (hob _ W hb (puts_size _ _) ?_ ?_ _ _ ?_)
    · intro e he hbd t ht K hK
      have hel := hdeps e he hbd
      have hen : e.on < n := by have := back e he hbd; omega
      rw [puts_here hap hen hel ht (List.range n) a0 (List.nodup_range) (List.mem_range.2 hen) (fun j hj => List.mem_range.1 hj) (hszt _ _ hen ht)]
      exact hx e.on hen hel K hK
    · intro t ht
      exact puts_other _ _ (fun j hj => ht j (List.mem_range.1 hj))
    · intro v W' hv hb'
      have hget : ∀ j, (listed.setIfInBounds i true).getD j false = upd (fun j => listed.getD j false) i true j := by
        intro j
        by_cases hji : j = i
        · subst hji
          simp [upd, his]
        · rw [getD_set_ne false (Ne.symm hji)]
          simp [upd, hji]
      refine ih _ _ W' (inv.set hi hin) ?_ ⟨ht' _ _ _ hb hb', upd x i v, ?_, ?_⟩
      · have h1 := countP_upd (i := i) (p := fun j => !listed.getD j false) (by simp [hif]) (List.range n) List.nodup_range (List.mem_range.2 hin)
        have h2 : left n (listed.setIfInBounds i true) = (List.range n).countP (upd (fun j => !listed.getD j false) i false) := by
          unfold left
          congr 1
          funext j
          rw [hget j]
          by_cases hji : j = i <;> simp [upd, hji]
        unfold left at hl
        omega
      · rw [← hdi, puts_new hap hin hif (List.range n) a0 List.nodup_range (List.mem_range.2 hin) (fun j hj => List.mem_range.1 hj)]
        exact puts_agree _ _ (fun j _ => ⟨(hget j).symm, fun _ => rfl⟩)
      · intro j hj hlj K hK
        rw [hget j] at hlj
        by_cases hji : j = i
        · subst hji
          obtain rfl : R = K := Option.some.inj (hR.symm.trans hK)
          simpa [upd] using hv
        · have e1 : upd x i v j = x j := by simp [upd, hji]
          have e2 : listed.getD j false = true := by simpa [upd, hji] using hlj
          rw [e1]
          obtain ⟨_, R', _, hR', hst', _⟩ := hΓ j hj
          obtain rfl : R' = K := Option.some.inj (hR'.symm.trans hK)
          exact hst' _ _ _ (hx j hj e2 _ hK) hb'

/-- The frame with all values of the head. -/
def fill : List Oper → Nat → (Nat → Value) → Act → Act
  | [], _, _, a => a
  | o :: l, k, x, a => fill l (k + 1) x (a.put o.dst (x k))
theorem fill_puts {x : Nat → Value} : ∀ (l : List Oper) (k : Nat) (a : Act), (∀ j, j < l.length → l[j]? = ops[k + j]?) → fill l k x a = puts ops x (fun _ => true) (List.range' k l.length) a
  | [], _, _, _ => rfl
  | o :: l, k, a, h => by
    have h0 : ops[k]? = some o := by simpa using (h 0 (by simp)).symm
    have hd : dst ops k = o.dst := by simp [dst, h0]
    simp only [fill, List.length_cons, List.range'_succ, puts, if_true, hd]
    exact fill_puts l (k + 1) _ (fun j hj => by have := h (j + 1) (by simp; omega); simpa [Nat.add_assoc, Nat.add_comm 1 j] using this)

/-- ████ The region. -/
theorem region_w (ht' : ∀ a b c, S a b → S b c → S a c) (hdr : ∀ W, S W { W with drawn := W.drawn + 1 }) {Q : Exit → Act → World → Prop} {a : Act} {w : World} {l : List Oper} (n : Nat) (hok : okB l.toArray n = true) (hsz : sizeB l.toArray n a.tmps.size = true)
    (h : walk S P l.toArray n w a (fun (Γ : List Know) => ∀ (x : Nat → Value) (W : World), S w W → (∀ (j : Nat) (K : Know), Γ[j]? = some K → K (x j) W) → wpList P l.toArray Q (l.drop n) (fill (l.take n) 0 x a) W) [] (l.take n)) :
    wpAny P .any l.toArray Q l.toArray.size (Array.replicate l.toArray.size false) a { w with drawn := w.drawn + 1 } := by
  have hok' := hok
  simp only [okB, Bool.and_eq_true, decide_eq_true_eq] at hok'
  obtain ⟨⟨⟨⟨⟨hn, _⟩, _⟩, hseq⟩, _⟩, hback⟩ := hok'
  have hn' : n < l.length := by simpa using hn
  have htl : (l.take n).length = n := by simp; omega
  obtain ⟨Δ, hlen, hT, hall⟩ := walk_all _ _ h
  rw [List.nil_append] at hT
  rw [htl] at hlen
  have hget : ∀ k, k < n → (l.take n)[k]? = l.toArray[k]? := fun k hk => by simp [List.getElem?_take, hk]
  have hΓ : ∀ k, k < n → ∃ o R, l.toArray[k]? = some o ∧ Δ[k]? = some R ∧ Stable S R ∧ GOK l.toArray Δ o ∧ Ob S P l.toArray n w a Δ o R := by
    intro k hk
    obtain ⟨o, ho⟩ : ∃ o, l.toArray[k]? = some o := ⟨_, Array.getElem?_eq_getElem (by simp; omega)⟩
    obtain ⟨R, h1, h2, h3, h4⟩ := hall k o (by rw [hget k hk, ho])
    rw [List.nil_append] at h3
    refine ⟨o, R, ho, h1, h2, h3.mono (fun g K hK => by
      rw [List.getElem?_take] at hK
      split at hK
      · exact hK
      · cases hK), (h4 (by simp only [List.length_nil, Nat.zero_add]; simp [dst, ho])).mono fun e he K hK => ?_⟩
    rw [List.nil_append] at hK
    rw [List.getElem?_take] at hK
    split at hK
    · exact hK
    · cases hK
  have inv0 : HeadInv .any l.toArray n (Array.replicate l.toArray.size false) :=
    ⟨by simp, fun j oj _ hl => (by rw [getD_replicate_false] at hl; cases hl), fun t _ ht => getD_in (by simpa using ht) (getD_replicate_false _ _)⟩
  have hleft : left n (Array.replicate l.toArray.size false) = n := by
    unfold left
    rw [List.countP_eq_length.2 (fun j _ => by rw [getD_replicate_false]; rfl), List.length_range]
  have hputs : ∀ x, puts l.toArray x (fun _ => true) (List.range n) a = fill (l.take n) 0 x a := fun x => by
    rw [fill_puts (ops := l.toArray) (l.take n) 0 a (fun j hj => by rw [htl] at hj; rw [hget j hj, Nat.zero_add]), htl, List.range_eq_range']
  have H := go ht' (P := P) (Q := Q) (w0 := w) (a0 := a) hok hsz hΓ (fun x W hb hx => by
    have hdl : (l.drop n).length = l.toArray.size - n := by simp
    have := wpAny_of_seq (md := .any) (Q' := Q) (ops := l.toArray) (P := P) (l.drop n) n (Ln n l.toArray.size) (fill (l.take n) 0 x a) W (fun j => by simp [List.getElem?_drop]) (by rw [hdl]; exact hseq)
      (hT x W hb (fun j K hK => hx j (by
        have := (List.getElem?_eq_some_iff.1 hK).1
        omega) K hK))
    rw [hputs x, ← hdl]
    exact this) n _ a { w with drawn := w.drawn + 1 } inv0 hleft ⟨hdr w, fun _ => undef, by
      rw [puts_agree (p' := fun _ => false) (x' := fun _ => undef) (List.range n) a (fun j _ => ⟨getD_replicate_false _ _, fun _ => rfl⟩)]
      exact (show ∀ (L : List Nat) (b : Act), b = puts l.toArray (fun _ => undef) (fun _ => false) L b from fun L => by
        induction L with
        | nil => intro b; rfl
        | cons j L ih => intro b; unfold puts; simpa using ih b) _ _, fun j _ hl => by rw [getD_replicate_false] at hl; cases hl⟩
  have e : n + (l.toArray.size - n) = l.toArray.size := by omega
  rw [e] at H
  exact H
end

def Ob3 (S : World → World → Prop) (P : Program) (DS : List Tmp) (w0 : World) (a0 : Act) (Γ : Ctx) (o : Oper) (R : Know) : Prop :=
  ∀ (a : Act) (W : World), S w0 W → deps Γ a W (ons o) → (∀ t, t ∉ DS → a.eval (.tmp t) = a0.eval (.tmp t)) →
    ∀ (K : Act → World → Prop) (Q : Exit → Act → World → Prop), (∀ v W', R v W' → S W W' → K (a.put o.dst v) W') → o.wp P a W K Q

def walk3 (S : World → World → Prop) (P : Program) (DS : List Tmp) (w0 : World) (a0 : Act) (T : Ctx → Prop) : Ctx → List Oper → Prop
  | Γ, [] => T Γ
  | Γ, o :: l => ∃ R, Stable S R ∧ GOK3 Γ o ∧ Ob3 S P DS w0 a0 Γ o R ∧ walk3 S P DS w0 a0 T (Γ ++ [(o.dst, R)]) l
theorem walk_of_walk3 {S : World → World → Prop} {P : Program} {ops : Array Oper} {n : Nat} {DS : List Tmp} {w0 : World} {a0 : Act} {T : Ctx → Prop} {T' : List Know → Prop} (hDS : ∀ t, t ∉ DS → ∀ j, j < n → dst ops j ≠ some t)
    (hT : ∀ Γ, T Γ → T' (Γ.map (·.2))) :
    ∀ (l : List Oper) (Γ : Ctx), (∀ j, j < l.length → l[j]? = ops[Γ.length + j]?) → (∀ j d R, Γ[j]? = some (d, R) → dst ops j = d) → walk3 S P DS w0 a0 T Γ l → walk S P ops n w0 a0 T' (Γ.map (·.2)) l
  | [], Γ, _, _, h => hT Γ h
  | o :: l, Γ, hl, hΓ, h => by
    obtain ⟨R, hs, hg, hob, hw⟩ := h
    have h0 : ops[Γ.length]? = some o := by simpa using (hl 0 (by simp)).symm
    have hg' : GOK ops (Γ.map (·.2)) o := by
      rcases hg with hg | ⟨g, b, t, hg, hin, hΓg⟩
      · exact .inl hg
      · obtain ⟨e, he, rfl⟩ := List.mem_map.1 hin
        obtain ⟨he1, he2⟩ := List.mem_filter.1 he
        exact .inr ⟨e.on, b, t, hg, ⟨e, by simpa using he1, he2, rfl⟩, hΓ _ _ _ hΓg, by simp [hΓg]⟩
    refine ⟨R, hs, hg', fun _ => ?_, ?_⟩
    · intro a W hb hz hd hbase K Q hK
      refine hob a W hb (deps_of _ fun j hj => ?_) (fun t ht => hbase t (fun j hj => hDS t ht j hj)) K Q hK
      obtain ⟨e, he, rfl⟩ := List.mem_map.1 hj
      obtain ⟨he1, he2⟩ := List.mem_filter.1 he
      have he' : e ∈ o.after := by simpa using he1
      cases hc : Γ[e.on]? with
      | none => trivial
      | some c =>
        obtain ⟨d, K'⟩ := c
        cases d with
        | none => trivial
        | some t => exact hd e he' he2 t (hΓ _ _ _ hc) K' (by simp [hc])
    · have := walk_of_walk3 hDS hT l (Γ ++ [(o.dst, R)]) (fun j hj => by
        have := hl (j + 1) (by simp; omega)
        simpa [Nat.add_assoc, Nat.add_comm 1 j] using this) (fun j d R' hj => by
        rcases Nat.lt_or_ge j Γ.length with h | h
        · rw [List.getElem?_append_left h] at hj
          exact hΓ j d R' hj
        · have hjl : j < (Γ ++ [(o.dst, R)]).length := (List.getElem?_eq_some_iff.1 hj).1
          obtain rfl : j = Γ.length := by simp at hjl; omega
          simp at hj
          rw [← hj.1]
          simp [dst, h0]) hw
      simpa using this

theorem region3_w {S : World → World → Prop} (ht' : ∀ a b c, S a b → S b c → S a c) (hdr : ∀ W, S W { W with drawn := W.drawn + 1 }) {P : Program} {Q : Exit → Act → World → Prop} {a : Act} {w : World} {l : List Oper} (n : Nat) (hok : okB l.toArray n = true) (hsz : sizeB l.toArray n a.tmps.size = true)
    (h : walk3 S P ((l.take n).filterMap (·.dst)) w a (fun Γ => ∀ (x : Nat → Value) (W : World), S w W → facts x W 0 Γ → wpList P l.toArray Q (l.drop n) (fill (l.take n) 0 x a) W) [] (l.take n)) :
    wpAny P .any l.toArray Q l.toArray.size (Array.replicate l.toArray.size false) a { w with drawn := w.drawn + 1 } := by
  have hn' : n < l.length := by
    simp only [okB, Bool.and_eq_true, decide_eq_true_eq] at hok
    simpa using hok.1.1.1.1.1
  have htl : (l.take n).length = n := by simp; omega
  refine region_w ht' hdr n hok hsz (walk_of_walk3 (n := n) (fun t ht j hj hd => ht ?_) (fun Γ hT x W hb hx => hT x W hb (facts_of Γ 0 (fun j K hj => by rw [Nat.zero_add]; exact hx j K hj))) (l.take n) [] (fun j hj => by
      rw [htl] at hj
      simp [List.getElem?_take, hj]) (fun j d R hj => by simp at hj) h)
  have hlj : j < l.length := by omega
  simp [dst, hlj] at hd
  exact List.mem_filterMap.2 ⟨l[j], List.mem_iff_getElem.2 ⟨j, by omega, by simp⟩, hd⟩
theorem region3 {S : World → World → Prop} (ht' : ∀ a b c, S a b → S b c → S a c) (hdr : ∀ W, S W { W with drawn := W.drawn + 1 }) {P : Program} {id : Nat} {Q : Exit → Act → World → Prop} {a : Act} {w : World} {l : List Oper} (n : Nat) (hm : P.follows .mixedOrders = true) (hok : okB l.toArray n = true) (hsz : sizeB l.toArray n a.tmps.size = true)
    (h : walk3 S P ((l.take n).filterMap (·.dst)) w a (fun Γ => ∀ (x : Nat → Value) (W : World), S w W → facts x W 0 Γ → wpList P l.toArray Q (l.drop n) (fill (l.take n) 0 x a) W) [] (l.take n)) :
    (Code.region id l.toArray true).wp P Q a w := wp_region_any hm (region3_w ht' hdr n hok hsz h)
section
variable {S : World → World → Prop} {P : Program} {DS : List Tmp} {w0 : World} {a0 : Act} {T : Ctx → Prop} {Γ : Ctx} {o : Oper} {rest : List Oper}

theorem op3 (hr : ∀ W, S W W) (v : Value) (hg : GOK3 Γ o) (h : ∀ (a : Act) (W : World), S w0 W → deps Γ a W (ons o) → (∀ t, t ∉ DS → a.eval (.tmp t) = a0.eval (.tmp t)) → (execOp a.eval o).run P W = .ok (.value v) W)
    (hn : walk3 S P DS w0 a0 T (Γ ++ [(o.dst, fun u _ => u = v)]) rest) : walk3 S P DS w0 a0 T Γ (o :: rest) :=
  ⟨_, fun _ _ _ h _ => h, hg, fun a W hb hd hbase K Q hK => by
    unfold Oper.wp
    rw [h a W hb hd hbase]
    exact hK v W rfl (hr W), hn⟩
/-- An operation that stores: what it does to the world is along S. -/
theorem store3 (R : World → Prop) (hs : ∀ W W', R W → S W W' → R W') (hg : GOK3 Γ o)
    (h : ∀ (a : Act) (W : World), S w0 W → deps Γ a W (ons o) → (∀ t, t ∉ DS → a.eval (.tmp t) = a0.eval (.tmp t)) → ∃ W', (execOp a.eval o).run P W = .ok .skip W' ∧ R W' ∧ S W W')
    (hn : walk3 S P DS w0 a0 T (Γ ++ [(o.dst, fun _ W => R W)]) rest) : walk3 S P DS w0 a0 T Γ (o :: rest) :=
  ⟨fun _ W => R W, fun _ W W' h hS => hs W W' h hS, hg, fun a W hb hd hbase K Q hK => by
    obtain ⟨W', hrun, hR, hS⟩ := h a W hb hd hbase
    unfold Oper.wp
    rw [hrun]
    exact hK undef W' hR hS, hn⟩
theorem done3 (h : T Γ) : walk3 S P DS w0 a0 T Γ [] := h
end
end Go.Proofs.YtdeapbihbhoefaaGreatDoor.RelG

/- Worlds that turn in one block alone, each cell of it to what it will be; for stores in the head of a drawn region. -/
namespace Go.Proofs.YtdeapbihbhoefaaGreatDoor
open Go.RowKit
open Calm (bcell Blk)
/-- below B all but block g is as it was; each cell of block g is as it was, or as it will be. -/
structure Turns (g : Nat) (new : Array Value) (B : Nat) (W W' : World) : Prop where
  os : W'.os = W.os
  tape : W'.tape = W.tape
  output : W'.output = W.output
  size : W.heap.size ≤ W'.heap.size
  block : ∀ k, k < B → k ≠ g → W'.heap[k]? = W.heap[k]?
  cell : ∀ i, W'.cell? ⟨g, i, none⟩ = W.cell? ⟨g, i, none⟩ ∨ W'.cell? ⟨g, i, none⟩ = new[i]? ∧ ∃ u, W.cell? ⟨g, i, none⟩ = some u
  frozen : ∀ i, W'.frozen? ⟨g, i, none⟩ = W.frozen? ⟨g, i, none⟩
theorem Turns.refl (g : Nat) (new : Array Value) (B : Nat) (W : World) : Turns g new B W W := ⟨rfl, rfl, rfl, Nat.le_refl _, fun _ _ _ => rfl, fun _ => .inl rfl, fun _ => rfl⟩
theorem Turns.trans {g : Nat} {new : Array Value} {B : Nat} (a b c : World) (h : Turns g new B a b) (h' : Turns g new B b c) : Turns g new B a c := by
  refine ⟨h'.os.trans h.os, h'.tape.trans h.tape, h'.output.trans h.output, Nat.le_trans h.size h'.size, fun k hk hg => (h'.block k hk hg).trans (h.block k hk hg), fun i => ?_, fun i => (h'.frozen i).trans (h.frozen i)⟩
  rcases h'.cell i with e' | ⟨e', u', hu'⟩
  · rcases h.cell i with e | ⟨e, hu⟩
    · exact .inl (e'.trans e)
    · exact .inr ⟨e'.trans e, hu⟩
  · rcases h.cell i with e | ⟨_, hu⟩
    · exact .inr ⟨e', u', e ▸ hu'⟩
    · exact .inr ⟨e', hu⟩
theorem Turns.drawn {g : Nat} {new : Array Value} {B : Nat} (W : World) : Turns g new B W { W with drawn := W.drawn + 1 } := ⟨rfl, rfl, rfl, Nat.le_refl _, fun _ _ _ => rfl, fun _ => .inl rfl, fun _ => rfl⟩
theorem Turns.of {g : Nat} {new : Array Value} {B : Nat} {W W' : World} (h : Below W.heap.size W W') (hg : g < W.heap.size) (hB : B ≤ W.heap.size) : Turns g new B W W' :=
  ⟨h.os, h.tape, h.output, h.size, fun k hk _ => h.block k (by omega), fun i => .inl (h.cell (p := ⟨g, i, none⟩) hg), fun i => h.frozen (p := ⟨g, i, none⟩) hg⟩
theorem Turns.below {g : Nat} {new : Array Value} {B B' : Nat} {W W' : World} (h : Turns g new B W W') (h1 : B' ≤ g) (h2 : B' ≤ B) : Below B' W W' :=
  ⟨h.os, h.tape, h.output, h.size, fun k hk => h.block k (by omega) (by omega)⟩
theorem Turns.has {g : Nat} {new cs : Array Value} {B : Nat} {W W' : World} (h : Turns g new B W W') (hB : Blk W g cs) (hsz : new.size = cs.size) {i : Nat} (hi : i < cs.size) : ∃ u, W'.cell? ⟨g, i, none⟩ = some u := by
  rcases h.cell i with e | ⟨e, _⟩
  · exact ⟨cs[i], by rw [e, hB.c i]; simp [hi]⟩
  · exact ⟨new[i]'(by omega), by rw [e]; simp [hsz, hi]⟩
theorem Turns.put {g : Nat} {new : Array Value} {B : Nat} {W : World} {i : Nat} {u v : Value} (hu : W.cell? ⟨g, i, none⟩ = some u) (hv : new[i]? = some v) : Turns g new B W (W.setCell ⟨g, i, none⟩ v) := by
  refine ⟨rfl, rfl, rfl, by simp [World.setCell], fun k _ hk => Below.heap_setCell _ _ _ _ hk, fun j => ?_, fun j => World.frozen?_setCell ..⟩
  by_cases hij : i = j
  · subst hij
    exact .inr ⟨(World.cell?_setCell_same W _ v hu).trans hv.symm, u, hu⟩
  · exact .inl (World.cell?_setCell_other W ⟨g, i, none⟩ ⟨g, j, none⟩ v (by intro e; cases e; exact hij rfl))
theorem Turns.old {g : Nat} {new : Array Value} {B : Nat} {W W' : World} (h : Turns g new B W W') : (∀ b o, b < B → b ≠ g → W'.cell? ⟨b, o, none⟩ = W.cell? ⟨b, o, none⟩) ∧ (∀ b o, b < B → b ≠ g → W'.frozen? ⟨b, o, none⟩ = W.frozen? ⟨b, o, none⟩) :=
  ⟨fun b o hb hg => World.cell?_of_block (w := W) (a := ⟨b, o, none⟩) (h.block b hb hg), fun b o hb hg => World.frozen?_of_block (w := W) (a := ⟨b, o, none⟩) (h.block b hb hg)⟩
/-- a stored cell stays what it will be. -/
theorem Turns.stays {g : Nat} {new : Array Value} {B : Nat} {i : Nat} {v : Value} (hv : new[i]? = some v) (W W' : World) (h : W.cell? ⟨g, i, none⟩ = some v) (hS : Turns g new B W W') : W'.cell? ⟨g, i, none⟩ = some v :=
  (hS.cell i).elim (fun e => e.trans h) (fun e => e.1.trans hv)
namespace RelG
open Rel (Know Ctx deps facts ons GOK3)
variable {S : World → World → Prop} {P : Program} {DS : List Tmp} {w0 : World} {a0 : Act} {T : Ctx → Prop} {Γ : Ctx} {o : Oper} {rest : List Oper}
theorem call3 (hof : ∀ W W', S w0 W → Below W.heap.size W W' → S W W') (v : Value) (f : FuncId) (args : Array Value) (hg : GOK3 Γ o)
    (h : ∀ (a : Act) (W : World), S w0 W → deps Γ a W (ons o) → (∀ t, t ∉ DS → a.eval (.tmp t) = a0.eval (.tmp t)) → (execOp a.eval o).run P W = .ok (.enter f args) W)
    (hc : ∀ W, S w0 W → Calls P f args W fun e W' => e = .returned v ∧ Below W.heap.size W W')
    (hn : walk3 S P DS w0 a0 T (Γ ++ [(o.dst, fun u _ => u = v)]) rest) : walk3 S P DS w0 a0 T Γ (o :: rest) :=
  ⟨fun u _ => u = v, fun _ _ _ h _ => h, hg, fun a W hb hd hbase K Q hK => by
    have hrun := h a W hb hd hbase
    unfold Oper.wp
    rw [hrun]
    simp only [Oper.upon]
    refine (hc W hb).mono ?_
    rintro e W' ⟨rfl, hbb⟩
    exact hK v W' rfl (hof W W' hb hbb), hn⟩
end RelG
end Go.Proofs.YtdeapbihbhoefaaGreatDoor

/- Contract of (Guard).behind: the state behind an output, and the excursion at it. -/
namespace Go.Proofs.YtdeapbihbhoefaaGreatDoor
open Go.RowKit
open Calm (bcell Blk)

/-- the excursion at an output: the sum of the first taps. -/
def exK (ts ps : List Int) (y : Int) : Nat → Int
  | 0 => ts.getD 0 0 * y
  | k + 1 => exK ts ps y k + ts.getD (k + 1) 0 * ps.getD k 0
def exF (ts ps : List Int) (y : Int) : Int := exK ts ps y ps.length
/-- the last outputs behind one. -/
def pushL (ps : List Int) (y : Int) : List Int := (y :: ps).take ps.length
theorem pushL_len (ps : List Int) (y : Int) : (pushL ps y).length = ps.length := by simp [pushL]
def inB (b : Int) (l : List Int) : Prop := ∀ x ∈ l, -b ≤ x ∧ x ≤ b
theorem inB_get {b : Int} {l : List Int} (h : inB b l) (hb : 0 ≤ b) (k : Nat) : -b ≤ l.getD k 0 ∧ l.getD k 0 ≤ b := by
  rw [List.getD_eq_getElem?_getD]
  rcases Nat.lt_or_ge k l.length with hk | hk
  · rw [List.getElem?_eq_getElem hk]; exact h _ (List.getElem_mem hk)
  · rw [List.getElem?_eq_none hk]; simp only [Option.getD_none]; omega
theorem inB_push {b y : Int} {l : List Int} (h : inB b l) (hy : -b ≤ y ∧ y ≤ b) : inB b (pushL l y) := by
  intro x hx
  have := List.mem_of_mem_take hx
  simp only [List.mem_cons] at this
  rcases this with rfl | h1
  · exact hy
  · exact h x h1
theorem mul_bd {a b A B : Int} (ha : -A ≤ a ∧ a ≤ A) (hb : -B ≤ b ∧ b ≤ B) : -(A * B) ≤ a * b ∧ a * b ≤ A * B := by
  have hA : 0 ≤ A := by omega
  have h1 : (A - a) * (B + b) ≥ 0 := Int.mul_nonneg (by omega) (by omega)
  have h2 : (A + a) * (B - b) ≥ 0 := Int.mul_nonneg (by omega) (by omega)
  have h3 : (A - a) * (B - b) ≥ 0 := Int.mul_nonneg (by omega) (by omega)
  have h4 : (A + a) * (B + b) ≥ 0 := Int.mul_nonneg (by omega) (by omega)
  simp only [Int.sub_mul, Int.add_mul, Int.mul_add, Int.mul_sub] at h1 h2 h3 h4
  omega
theorem exK_bd {ts ps : List Int} {y : Int} (h1 : inB 64 ts) (h2 : inB 2048 ps) (h3 : -2048 ≤ y ∧ y ≤ 2048) : ∀ k : Nat, -(131072 * ((k : Int) + 1)) ≤ exK ts ps y k ∧ exK ts ps y k ≤ 131072 * ((k : Int) + 1)
  | 0 => by
    have := mul_bd (inB_get h1 (by omega) 0) h3
    simp only [exK]; omega
  | k + 1 => by
    have h4 := exK_bd h1 h2 h3 k
    have := mul_bd (inB_get h1 (by omega) (k + 1)) (inB_get h2 (by omega) k)
    simp only [exK]; omega

theorem Tryz.infoI : (Tryz.prog.info? 3).map (fun i => (i.zero, i.size, i.bytes)) = some (some (.int .i64 0), 1, 8) := by kernel_rfl
theorem Tryz.sizeI : (Tryz.prog.info? 3).map (·.size) = some 1 := by kernel_rfl
/-- n zeros. -/
def zerosA (n : Nat) : List Value := List.replicate n (.int .i64 0)
theorem mk_ints (n : Nat) (hn : n ≤ 1000000) (W : World) : Sem.run Tryz.prog (Instr.makeSlice 22 (.int .i64 n) (.int .i64 n)) W = .ok (.slice (some ⟨W.heap.size, 0, none⟩) n n) (W.alloc (.cells (zerosA n).toArray 3)) := by
  have e : (zerosA n).toArray = madeCells #[.int .i64 0] n := by
    apply Array.toList_inj.1
    rw [toList_madeCells_one]
    simp [zerosA]
  rw [e]
  exact run_make_row' 22 3 _ 8 Tryz.underlying22 Tryz.infoI rfl .i64 .i64 n (by omega) (by omega) W

/-- a struct of three cells, stored. -/
theorem Calm.Blk.set3 {w : World} {g : Nat} {u0 u1 u2 : Value} (h : Blk w g #[u0, u1, u2]) (a b c : Value) : Blk (((w.setCell ⟨g, 0, none⟩ a).setCell ⟨g, 1, none⟩ b).setCell ⟨g, 2, none⟩ c) g #[a, b, c] := by
  refine ⟨by simpa using h.lt, fun i => ?_, fun i => by rw [World.frozen?_setCell, World.frozen?_setCell, World.frozen?_setCell]; exact h.f i⟩
  have e0 := h.c 0
  have e1 := h.c 1
  have e2 := h.c 2
  simp at e0 e1 e2
  match i with
  | 0 => rw [World.cell?_setCell_other _ _ _ _ (by simp), World.cell?_setCell_other _ _ _ _ (by simp), World.cell?_setCell_same' _ _ _ (by rw [e0]; simp)]; simp
  | 1 => rw [World.cell?_setCell_other _ _ _ _ (by simp), World.cell?_setCell_same' _ _ _ (by rw [World.cell?_setCell_other _ _ _ _ (by simp), e1]; simp)]; simp
  | 2 => rw [World.cell?_setCell_same' _ _ _ (by rw [World.cell?_setCell_other _ _ _ _ (by simp), World.cell?_setCell_other _ _ _ _ (by simp), e2]; simp)]; simp
  | i + 3 =>
    have e3 := h.c (i + 3)
    rw [World.cell?_setCell_other _ _ _ _ (by simp), World.cell?_setCell_other _ _ _ _ (by simp), World.cell?_setCell_other _ _ _ _ (by simp), e3]
    simp
theorem Turns.put3 {g : Nat} {B : Nat} {W0 W : World} {a b c u0 u1 u2 : Value} (hK : Blk W0 g #[u0, u1, u2]) (hT : Turns g #[a, b, c] B W0 W) :
    Turns g #[a, b, c] B W (((W.setCell ⟨g, 0, none⟩ a).setCell ⟨g, 1, none⟩ b).setCell ⟨g, 2, none⟩ c) := by
  obtain ⟨v0, h0⟩ := hT.has hK rfl (i := 0) (by simp)
  obtain ⟨v1, h1⟩ := hT.has hK rfl (i := 1) (by simp)
  obtain ⟨v2, h2⟩ := hT.has hK rfl (i := 2) (by simp)
  refine Turns.trans _ _ _ (Turns.trans _ _ _ (Turns.put h0 rfl) (Turns.put ((World.cell?_setCell_other W ⟨g, 0, none⟩ ⟨g, 1, none⟩ _ (by simp)).trans h1) rfl)) (Turns.put (((World.cell?_setCell_other _ ⟨g, 1, none⟩ ⟨g, 2, none⟩ _ (by simp)).trans (World.cell?_setCell_other W ⟨g, 0, none⟩ ⟨g, 2, none⟩ _ (by simp))).trans h2) rfl)
/-- the three cells are what they will be. -/
def Is3 (g : Nat) (a b c : Value) (W : World) : Prop := W.cell? ⟨g, 0, none⟩ = some a ∧ W.cell? ⟨g, 1, none⟩ = some b ∧ W.cell? ⟨g, 2, none⟩ = some c
theorem Is3.stays {g B : Nat} {a b c : Value} (W W' : World) (h : Is3 g a b c W) (hS : Turns g #[a, b, c] B W W') : Is3 g a b c W' :=
  ⟨Turns.stays rfl W W' h.1 hS, Turns.stays rfl W W' h.2.1 hS, Turns.stays rfl W W' h.2.2 hS⟩
theorem Is3.of_put {g : Nat} {B : Nat} {W0 W : World} {a b c u0 u1 u2 : Value} (hK : Blk W0 g #[u0, u1, u2]) (hT : Turns g #[a, b, c] B W0 W) : Is3 g a b c (((W.setCell ⟨g, 0, none⟩ a).setCell ⟨g, 1, none⟩ b).setCell ⟨g, 2, none⟩ c) := by
  obtain ⟨v0, h0⟩ := hT.has hK rfl (i := 0) (by simp)
  obtain ⟨v1, h1⟩ := hT.has hK rfl (i := 1) (by simp)
  obtain ⟨v2, h2⟩ := hT.has hK rfl (i := 2) (by simp)
  refine ⟨?_, ?_, ?_⟩
  · rw [World.cell?_setCell_other _ _ _ _ (by simp), World.cell?_setCell_other _ _ _ _ (by simp), World.cell?_setCell_same _ _ _ h0]
  · rw [World.cell?_setCell_other _ _ _ _ (by simp), World.cell?_setCell_same _ _ _ ((World.cell?_setCell_other W ⟨g, 0, none⟩ ⟨g, 1, none⟩ _ (by simp)).trans h1)]
  · exact World.cell?_setCell_same _ _ _ (((World.cell?_setCell_other _ ⟨g, 1, none⟩ ⟨g, 2, none⟩ _ (by simp)).trans (World.cell?_setCell_other W ⟨g, 0, none⟩ ⟨g, 2, none⟩ _ (by simp))).trans h2)
theorem cells_src {w : World} {b o : Nat} {zs : List Int} (hc : ∀ k, k < zs.length → w.cell? ⟨b, o + k, none⟩ = some (.int .i64 (zs.getD k 0))) (j : Nat) (v : Value) (h : (zs.map (Value.int .i64))[j]? = some v) : w.cell? ((⟨b, o, none⟩ : Addr).add j) = some v := by
  have hadd : (⟨b, o, none⟩ : Addr).add j = ⟨b, o + j, none⟩ := by unfold Addr.add; split <;> simp_all
  rw [List.getElem?_map] at h
  rcases Nat.lt_or_ge j zs.length with hj | hj
  · rw [List.getElem?_eq_getElem hj] at h
    rw [hadd, hc j hj, ← h, List.getD_eq_getElem?_getD, List.getElem?_eq_getElem hj]
    rfl
  · rw [List.getElem?_eq_none hj] at h; cases h
theorem Cells.row {w : World} {g : Nat} {zs : List Int} {t : TypeId} (h : w.heap[g]? = some (.cells (zs.map (Value.int .i64)).toArray t (0, 0))) : Cells w (some ⟨g, 0, none⟩) zs := by
  intro h0
  refine ⟨g, 0, rfl, (Array.getElem?_eq_some_iff.1 h).1, fun k hk => ?_⟩
  simp [World.cell?, h, hk, List.getD_eq_getElem?_getD, List.getElem?_eq_getElem hk]
theorem cell_alloc4 {w : World} (o1 o2 o3 o4 : Obj) (p : Addr) (h : p.block < w.heap.size) : ((((w.alloc o1).alloc o2).alloc o3).alloc o4).cell? p = w.cell? p :=
  Below.cell (B := w.heap.size) (((((Below.refl _ w).alloc (Nat.le_refl _) o1).alloc (by simp) o2).alloc (by simp; omega) o3).alloc (by simp; omega) o4) h
theorem splice_push (ps : List Int) (y : Int) (k : Nat) (hk : k = ps.length) (h0 : 0 < k) : splice ((zerosA k).set 0 (.int .i64 y)) 1 ((ps.take (k - 1)).map (Value.int .i64)) = (pushL ps y).map (Value.int .i64) := by
  obtain ⟨m, rfl⟩ : ∃ m, k = m + 1 := ⟨k - 1, by omega⟩
  have e : (ps.take m).length = m := by simp; omega
  simp only [splice, zerosA, List.replicate_succ, List.set_cons_zero, Nat.add_sub_cancel, List.length_map, e]
  simp [pushL, ← hk, Nat.add_comm 1 m]
set_option maxHeartbeats 1000000 in
set_option maxRecDepth 100000 in
theorem behind_typed (lk ht rc h lv y : Int) (ts ps : List Int) (A1 A2 A3 : Option Addr) (c1 n2 c2 c3 : Nat) (w : World) (hlk : 1 ≤ lk ∧ lk ≤ 8) (hh : 0 ≤ h ∧ h ≤ 1099511627776) (hT : Cells w A1 ts) (hP : Cells w A3 ps)
    (hn : ts.length = ps.length + 1) (hn2 : ps.length ≤ 7) (bT : inB 64 ts) (bP : inB 2048 ps) (hy : -2048 ≤ y ∧ y ≤ 2048) :
    Calls Tryz.prog 52 #[.agg #[(.int .i64 lk), (.int .i64 ht), .slice A1 ts.length c1, (.int .i64 rc), .slice A2 n2 c2], .agg #[(.int .i64 h), (.int .i64 lv), .slice A3 ps.length c3], (.int .i64 y)] w fun r w' => (∃ B, w.heap.size ≤ B.block ∧ r = .returned (.tuple #[.agg #[(.int .i64 (coolF lk h + y * y)), (.int .i64 lv), .slice (some B) ps.length ps.length], (.int .i64 (exF ts ps y))]) ∧ Cells w' (some B) (pushL ps y) ∧ IntRow w' B) ∧ Below w.heap.size w w' := by
  obtain ⟨b1, o1, rfl, l1, k1⟩ := hT (by omega)
  have x0 := k1 0 (by omega)
  rw [Nat.add_zero] at x0
  have t0 := inB_get bT (by omega) 0
  have m0 := mul_bd t0 hy
  have m1 := mul_bd hy hy
  have q0 := coolF_bd lk hh.1
  have HB := Lib.hid (exK_bd bT bP hy)
  have HG1 := Lib.hid (fun k => inB_get bT (by omega) k)
  have HG2 := Lib.hid (fun k => inB_get bP (by omega) k)
  have HT := Lib.hid k1
  have HP := Lib.hid hP
  have HL := Lib.hid (pushL_len ps y)
  obtain ⟨N, hN⟩ : ∃ N, N = ps.length := ⟨_, rfl⟩
  have HE : exF ts ps y = exK ts ps y N := by rw [hN]; rfl
  have HE' := Lib.hid HE
  have HN := Lib.hid hN
  have HTL : Hid (ts.length = N + 1) := Lib.hid (by rw [hN]; exact hn)
  have HE0 : Hid (exK ts ps y 0 = ts.getD 0 0 * y) := Lib.hid rfl
  obtain ⟨t, ht⟩ : ∃ t, t = ts.getD 0 0 := ⟨_, rfl⟩
  rw [← ht] at x0 t0 m0 HE0
  obtain ⟨a1, a2⟩ := hlk
  obtain ⟨a3, a4⟩ := hh
  obtain ⟨a5, a6⟩ := hy
  obtain ⟨a7, a8⟩ := t0
  obtain ⟨a9, a10⟩ := m0
  obtain ⟨a11, a12⟩ := m1
  obtain ⟨a13, a14⟩ := q0
  have hx : exF ts ps y = exK ts ps y N := HE
  rw [hn, hx, ← hN]
  rw [← hN] at hn2
  clear k1 hP hT ht HE hx hN hn bT bP
  have g1 : b1 < w.heap.size + 1 := by omega
  have g2 : b1 < w.heap.size + 1 + 1 := by omega
  go_enter Tryz.func52, Tryz.ntmps52
  go_wp2
  go_loop [8, 21] (fun e i => ∃ k : Nat, k ≤ N ∧ i = (.int .i64 k) ∧ e = (.int .i64 (exK ts ps y k))) (fun _ i => N - (intOf i).toNat)
  case atStart => exact ⟨0, Nat.zero_le _, rfl, by rw [HE0.out]⟩
  case round =>
    obtain ⟨k, hk, rfl, rfl⟩ := hrel
    by_cases hlt : k < N
    · have hlt2 : k < ps.length := by rw [← HN.out]; exact hlt
      obtain ⟨b3, o3, rfl, l3, k3⟩ := HP.out (by omega)
      have x3 := k3 k hlt2
      have x1 := HT.out (k + 1) (by rw [HTL.out]; omega)
      have g4 : b3 < w.heap.size + 1 := by omega
      have g5 : b3 < w.heap.size + 1 + 1 := by omega
      have HX : Hid (exK ts ps y (k + 1) = exK ts ps y k + ts.getD (k + 1) 0 * ps.getD k 0) := Lib.hid rfl
      obtain ⟨d1, d2⟩ := HB.out k
      obtain ⟨d3, d4⟩ := mul_bd (HG1.out (k + 1)) (HG2.out k)
      obtain ⟨E, hE⟩ : ∃ E, E = exK ts ps y k := ⟨_, rfl⟩
      obtain ⟨u, hu⟩ : ∃ u, u = ts.getD (k + 1) 0 := ⟨_, rfl⟩
      obtain ⟨v, hv⟩ : ∃ v, v = ps.getD k 0 := ⟨_, rfl⟩
      rw [← hu] at x1
      rw [← hv] at x3
      rw [← hE, ← hu, ← hv] at HX
      rw [← hE] at d1 d2
      rw [← hu, ← hv] at d3 d4
      rw [← hE]
      clear k3 hlt2 hE hu hv
      go_wp2
      go_round
      case rel => exact ⟨k + 1, by omega, by go_num, by rw [HX.out]⟩
      case measure => simp [intOf]; omega
    · obtain rfl : k = N := by omega
      have hmk := mk_ints k (by omega)
      obtain ⟨E, hE⟩ : ∃ E, E = exK ts ps y k := ⟨_, rfl⟩
      rw [← hE]
      have HEE := Lib.hid hE
      clear hE
      rcases Nat.eq_zero_or_pos k with h0 | h0
      · obtain rfl : k = 0 := h0
        clear hmk
        have hmk : ∀ W : World, Sem.run Tryz.prog (Instr.makeSlice 22 (.int .i64 0) (.int .i64 0)) W = .ok (.slice (some ⟨W.heap.size, 0, none⟩) 0 0) (W.alloc (.cells #[] 3)) := fun W => mk_ints 0 (by omega) W
        go_wp2
        refine name_world ?_
        intro w2 hw2
        have K0 : Blk w2 w.heap.size #[(.int .i64 lk), (.int .i64 ht), .slice (some ⟨b1, o1, none⟩) 1 c1, (.int .i64 rc), .slice A2 n2 c2] := by rw [hw2]; (repeat (first | ((with_reducible refine Blk.at_ ?_); focus (first | rfl | (simp; done) | (simp; omega))) | (with_reducible refine Blk.alloc ?_ _) | (with_reducible refine Blk.below ?_ (by with_reducible assumption)) | (with_reducible refine Blk.drew ?_)))
        have K1 : Blk w2 (w.heap.size + 1) #[(.int .i64 h), (.int .i64 lv), .slice A3 0 c3] := by rw [hw2]; (repeat (first | ((with_reducible refine Blk.at_ ?_); focus (first | rfl | (simp; done) | (simp; omega))) | (with_reducible refine Blk.alloc ?_ _) | (with_reducible refine Blk.below ?_ (by with_reducible assumption)) | (with_reducible refine Blk.drew ?_)))
        have K2 : Blk w2 (w.heap.size + 1 + 1) #[(.int .i64 0), (.int .i64 0), .slice none 0 0] := by rw [hw2]; (repeat (first | ((with_reducible refine Blk.at_ ?_); focus (first | rfl | (simp; done) | (simp; omega))) | (with_reducible refine Blk.alloc ?_ _) | (with_reducible refine Blk.below ?_ (by with_reducible assumption)) | (with_reducible refine Blk.drew ?_)))
        have HR : Hid (Cells w2 (some ⟨w.heap.size + 1 + 1 + 1, 0, none⟩) (pushL ps y)) := Lib.hid (by intro h6; rw [pushL_len, ← HN.out] at h6; omega)
        have HBW : Hid (Below w.heap.size w w2) := Lib.hid (by rw [hw2]; (repeat (first | (with_reducible exact Below.refl _ _) | ((with_reducible refine Below.setCell ?_ ?_ _); rotate_left 1; focus (first | (simp; done) | (simp; omega) | (simp at *; omega))) | ((with_reducible refine Below.alloc ?_ ?_ _); rotate_left 1; focus (first | (simp; done) | (simp; omega) | (simp at *; omega))) | (with_reducible refine Below.drew ?_) | ((with_reducible refine Calm.step (by assumption) ?_ ?_); rotate_left 1; focus (first | (simp; done) | (simp; omega) | (simp at *; omega))))))
        have HIR : Hid (IntRow w2 ⟨w.heap.size + 1 + 1 + 1, 0, none⟩) := Lib.hid ⟨#[], by rw [hw2]; exact heap_new (by simp)⟩
        have hs2 : w.heap.size + 1 + 1 + 1 + 1 ≤ w2.heap.size := by rw [hw2]; simp
        clear hw2 hmk
        obtain ⟨c00, c01, c02, c03, c04, l0, f0⟩ := K0.o5
        obtain ⟨c10, c11, c12, l10, f1⟩ := K1.o3
        obtain ⟨c20, c21, c22, l20, f2⟩ := K2.o3
        have hgS : w.heap.size + 1 + 1 < w2.heap.size := by omega
        have HK2 := Lib.hid K2
        have ne0 : ¬ w.heap.size = w.heap.size + 1 + 1 := by omega
        have ne1 : ¬ w.heap.size + 1 = w.heap.size + 1 + 1 := by omega
        clear K2
        (try simp only [Act.put, List.setIfInBounds_toArray, List.set_cons_zero, List.set_cons_succ])
        refine RelG.region3 (S := Turns (w.heap.size + 1 + 1) #[(.int .i64 (coolF lk h + y * y)), (.int .i64 lv), .slice (some ⟨w.heap.size + 1 + 1 + 1, 0, none⟩) 0 0] w2.heap.size) Turns.trans Turns.drawn 14 (by kernel_rfl) (by kernel_rfl) (by kernel_rfl) ?_
        simp only [List.take_succ_cons, List.take_zero, List.drop_succ_cons, List.drop_zero, List.filterMap_cons, List.filterMap_nil]
        iterate 3 (apply RelG.op3 (Turns.refl _ _ _); (focus (first | exact Rel.gno rfl | exact Rel.gyes _ true _ rfl rfl rfl | exact Rel.gyes _ false _ rfl rfl rfl)); (focus (intro a W hb hd hbase; obtain ⟨hc, hf⟩ := hb.old; clear hb hf; simp [Rel.deps, Rel.dep1, Rel.ons, Region.binds, Act.eval] at hd; simp only [Act.eval, List.mem_cons, List.not_mem_nil, not_or, and_imp, or_false, Array.getD_eq_getD_getElem?] at hbase; go_simp; (try go_bits); (try rfl); done)); (try simp only [List.nil_append, List.cons_append]))
        (apply RelG.call3 (fun W W' hb h2 => Turns.of h2 (Nat.lt_of_lt_of_le hgS hb.size) hb.size); (focus (first | exact Rel.gno rfl | exact Rel.gyes _ true _ rfl rfl rfl | exact Rel.gyes _ false _ rfl rfl rfl)); (focus (intro a W hb hd hbase; obtain ⟨hc, hf⟩ := hb.old; clear hb hf; simp [Rel.deps, Rel.dep1, Rel.ons, Region.binds, Act.eval] at hd; simp only [Act.eval, List.mem_cons, List.not_mem_nil, not_or, and_imp, or_false, Array.getD_eq_getD_getElem?] at hbase; go_simp; refine ⟨?_, ?_⟩; rfl; rfl)); (focus (intro W hb; go_at_call 63; exact cooled_any _ _ _ _ _ _ _ _ _ _ _ ⟨a1, a2⟩ ⟨a3, a4⟩)); (try simp only [List.nil_append, List.cons_append]))
        iterate 9 (apply RelG.op3 (Turns.refl _ _ _); (focus (first | exact Rel.gno rfl | exact Rel.gyes _ true _ rfl rfl rfl | exact Rel.gyes _ false _ rfl rfl rfl)); (focus (intro a W hb hd hbase; obtain ⟨hc, hf⟩ := hb.old; clear hb hf; simp [Rel.deps, Rel.dep1, Rel.ons, Region.binds, Act.eval] at hd; simp only [Act.eval, List.mem_cons, List.not_mem_nil, not_or, and_imp, or_false, Array.getD_eq_getD_getElem?] at hbase; go_simp; (try go_bits); (try rfl); done)); (try simp only [List.nil_append, List.cons_append]))
        refine RelG.store3 (Is3 (w.heap.size + 1 + 1) (.int .i64 (coolF lk h + y * y)) (.int .i64 lv) (.slice (some ⟨w.heap.size + 1 + 1 + 1, 0, none⟩) 0 0)) Is3.stays (Rel.gno rfl) ?_ ?_
        · intro a W hb hd hbase
          refine ⟨_, ?_, Is3.of_put HK2.out hb, Turns.put3 HK2.out hb⟩
          obtain ⟨u0, hu0⟩ := hb.has HK2.out rfl (i := 0) (by simp)
          obtain ⟨u1, hu1⟩ := hb.has HK2.out rfl (i := 1) (by simp)
          obtain ⟨u2, hu2⟩ := hb.has HK2.out rfl (i := 2) (by simp)
          have hf0 := (hb.frozen 0).trans (HK2.out.f 0)
          have hf1 := (hb.frozen 1).trans (HK2.out.f 1)
          have hf2 := (hb.frozen 2).trans (HK2.out.f 2)
          clear hb
          simp [Rel.deps, Rel.dep1, Rel.ons, Region.binds, Act.eval] at hd; simp only [Act.eval, List.mem_cons, List.not_mem_nil, not_or, and_imp, or_false, Array.getD_eq_getD_getElem?] at hbase
          go_simp
        (try simp only [List.nil_append, List.cons_append])
        refine RelG.done3 ?_
        intro x w4 hS hx
        simp only [Rel.facts, Nat.zero_add, Nat.reduceAdd] at hx
        obtain ⟨e0, e1, e2, e3, e4, e5, e6, e7, e8, e9, e10, e11, e12, s13, _⟩ := hx
        simp only [RelG.fill, Nat.zero_add, Nat.reduceAdd, e0, e1, e2, e3, e4, e5, e6, e7, e8, e9, e10, e11, e12]
        simp only [Act.put, List.setIfInBounds_toArray, List.set_cons_zero, List.set_cons_succ]
        clear e0 e1 e2 e3 e4 e5 e6 e7 e8 e9 e10 e11 e12
        obtain ⟨z0, z1, z2⟩ := s13
        have HF := Lib.hid (show Below w.heap.size w w4 from HBW.out.trans (hS.below (by omega) (by omega)))
        have HC := Lib.hid (show Cells w4 (some ⟨w.heap.size + 1 + 1 + 1, 0, none⟩) (pushL ps y) by
          have h5 := HR.out
          intro h6
          obtain ⟨b, off, hA, hl, hc⟩ := h5 h6
          cases hA
          exact ⟨_, _, rfl, Nat.lt_of_lt_of_le hl hS.size, fun j hj => (hS.old.1 _ _ hl (by omega)).trans (hc j hj)⟩)
        have HIS : Hid (IntRow w4 ⟨w.heap.size + 1 + 1 + 1, 0, none⟩) := Lib.hid (by
          obtain ⟨cur, h5⟩ := HIR.out
          exact ⟨cur, (hS.block _ (by show w.heap.size + 1 + 1 + 1 < _; omega) (by show w.heap.size + 1 + 1 + 1 ≠ _; omega)).trans h5⟩)
        clear hS HR HBW HK2 HIR
        go_wp2
        exact bodyPost_ret (v := .tuple #[.agg #[(.int .i64 (coolF lk h + y * y)), (.int .i64 lv), .slice (some ⟨w.heap.size + 1 + 1 + 1, 0, none⟩) 0 0], (.int .i64 E)]) (by simp [results, Tryz.results52, go_sem, *]) rfl ⟨⟨_, by show w.heap.size ≤ w.heap.size + 1 + 1 + 1; omega, by rw [HEE.out], HC.out, HIS.out⟩, HF.out⟩
      · have hz0 : (zerosA k)[0]? = some (.int .i64 0) := by simp [zerosA, h0]
        have h1k : (1 : Int) ≤ (k : Int) := by omega
        go_wp2
        obtain ⟨X, hX⟩ : ∃ X : Option Addr, X = (if k = 1 then some ⟨w.heap.size + 1 + 1 + 1, 0, none⟩ else some ⟨w.heap.size + 1 + 1 + 1, 1, none⟩) := ⟨_, rfl⟩
        refine Calm.tail_below 4 (by kernel_rfl) (by kernel_rfl) ?_
        simp only [List.take_succ_cons, List.take_zero, List.drop_succ_cons, List.drop_zero]
        (first | (apply Calm.op_move; (focus rfl); (focus (first | exact .inl rfl | exact .inr rfl)); (focus ((try simp only [Act.eval, Array.getD_eq_getD_getElem?, List.getElem?_toArray, List.getElem?_cons_succ, List.getElem?_cons_zero, Option.getD_some]); rfl)); (try simp only [Act.put, List.setIfInBounds_toArray, List.set_cons_zero, List.set_cons_succ])) | (apply Calm.op_not; (focus rfl); (try simp only [Act.put, List.setIfInBounds_toArray, List.set_cons_zero, List.set_cons_succ])) | (apply Calm.op; (focus rfl); (focus (intro W hb; obtain ⟨hc, hf⟩ := bcell hb; clear hb hf; go_simp; (try go_bits); (try rfl); done)); (try simp only [Act.put, List.setIfInBounds_toArray, List.set_cons_zero, List.set_cons_succ])))
        apply Calm.op (.slice X (k - 1) (k - 1))
        focus rfl
        focus (intro W hb; obtain ⟨hc, hf⟩ := bcell hb; clear hb hf; go_simp)
        simp only [Act.put, List.setIfInBounds_toArray, List.set_cons_zero, List.set_cons_succ]
        repeat (first | (apply Calm.op_move; (focus rfl); (focus (first | exact .inl rfl | exact .inr rfl)); (focus ((try simp only [Act.eval, Array.getD_eq_getD_getElem?, List.getElem?_toArray, List.getElem?_cons_succ, List.getElem?_cons_zero, Option.getD_some]); rfl)); (try simp only [Act.put, List.setIfInBounds_toArray, List.set_cons_zero, List.set_cons_succ])) | (apply Calm.op_not; (focus rfl); (try simp only [Act.put, List.setIfInBounds_toArray, List.set_cons_zero, List.set_cons_succ])) | (apply Calm.op; (focus rfl); (focus (intro W hb; obtain ⟨hc, hf⟩ := bcell hb; clear hb hf; go_simp; (try go_bits); (try rfl); done)); (try simp only [Act.put, List.setIfInBounds_toArray, List.set_cons_zero, List.set_cons_succ])))
        refine wpQuiet_nil ?_
        intro w1 hb
        obtain ⟨hbc, hbf⟩ := bcell hb
        have hbz := hb.size
        (try simp at hbz)
        (try have hbz0 : w.heap.size < w1.heap.size := by omega)
        (try have hbz1 : w.heap.size + 1 < w1.heap.size := by omega)
        (try have hbz2 : w.heap.size + 1 + 1 < w1.heap.size := by omega)
        (try have hbz3 : w.heap.size + 1 + 1 + 1 < w1.heap.size := by omega)
        (try have hbz4 : w.heap.size + 1 + 1 + 1 + 1 < w1.heap.size := by omega)
        (try have hbz5 : w.heap.size + 1 + 1 + 1 + 1 + 1 < w1.heap.size := by omega)
        refine wpList_copy_splice rfl (.tmp 48) (.tmp 50) 22 22 rfl 3 Tryz.underlying22 Tryz.sizeI X A3 (k - 1) (k - 1) k c3 rfl rfl (w.heap.size + 1 + 1 + 1) 1 ((zerosA k).set 0 (.int .i64 y)) 3 ?g0 ((ps.take (k - 1)).map (Value.int .i64)) ?g1 ?g2 ?g3 ?g4 (w.heap.size + 1 + 1 + 1) w1 (Below.refl _ _) (Nat.le_refl _) ?g5
        case g0 => exact (hb.block _ (by simp)).trans (heap_new (by simp))
        case g1 => simp [← HN.out, Nat.min_def]; (try omega)
        case g2 =>
          intro h5
          have h6 : 1 < k := by simp at h5; omega
          refine ⟨by rw [hX, if_neg (by omega)], ?_⟩
          obtain ⟨b3, o3, rfl, l3, k3⟩ := HP.out (by have := HN.out; omega)
          refine ⟨_, rfl, fun j v hv => ?_⟩
          refine cells_src (zs := ps) (fun j hj => (hbc _ _ (by simp; omega)).trans ?_) j v ?_
          · exact (cell_alloc4 _ _ _ _ _ l3).trans (k3 j hj)
          · rw [List.getElem?_map] at hv ⊢
            rw [List.getElem?_take] at hv
            split at hv
            · exact hv
            · cases hv
        case g3 => simp [zerosA, ← HN.out]; (try omega)
        case g4 => intro v hv; obtain ⟨_, _, rfl⟩ := List.mem_map.1 hv; rfl
        case g5 =>
          intro w2 HG2 hB2
          have HB2 := Lib.hid hB2
          have K0 : Blk w1 w.heap.size #[(.int .i64 lk), (.int .i64 ht), .slice (some ⟨b1, o1, none⟩) (k + 1) c1, (.int .i64 rc), .slice A2 n2 c2] := by (repeat (first | ((with_reducible refine Blk.at_ ?_); focus (first | rfl | (simp; done) | (simp; omega))) | (with_reducible refine Blk.alloc ?_ _) | (with_reducible refine Blk.below ?_ (by with_reducible assumption)) | (with_reducible refine Blk.drew ?_)))
          have K1 : Blk w1 (w.heap.size + 1) #[(.int .i64 h), (.int .i64 lv), .slice A3 k c3] := by (repeat (first | ((with_reducible refine Blk.at_ ?_); focus (first | rfl | (simp; done) | (simp; omega))) | (with_reducible refine Blk.alloc ?_ _) | (with_reducible refine Blk.below ?_ (by with_reducible assumption)) | (with_reducible refine Blk.drew ?_)))
          have K2 : Blk w1 (w.heap.size + 1 + 1) #[(.int .i64 0), (.int .i64 0), .slice none 0 0] := by (repeat (first | ((with_reducible refine Blk.at_ ?_); focus (first | rfl | (simp; done) | (simp; omega))) | (with_reducible refine Blk.alloc ?_ _) | (with_reducible refine Blk.below ?_ (by with_reducible assumption)) | (with_reducible refine Blk.drew ?_)))
          have K0 := K0.upto hB2 (by omega)
          have K1 := K1.upto hB2 (by omega)
          have K2 := K2.upto hB2 (by omega)
          have HR := Lib.hid (Cells.row (by rw [← splice_push ps y k HN.out h0]; exact HG2.out))
          have HIR : Hid (IntRow w2 ⟨w.heap.size + 1 + 1 + 1, 0, none⟩) := Lib.hid ⟨_, HG2.out⟩
          have HBW : Hid (Below w.heap.size w w2) := Lib.hid (Below.trans (by (repeat (first | (with_reducible exact Below.refl _ _) | ((with_reducible refine Below.setCell ?_ ?_ _); rotate_left 1; focus (first | (simp; done) | (simp; omega) | (simp at *; omega))) | ((with_reducible refine Below.alloc ?_ ?_ _); rotate_left 1; focus (first | (simp; done) | (simp; omega) | (simp at *; omega))) | (with_reducible refine Below.drew ?_) | ((with_reducible refine Calm.step (by assumption) ?_ ?_); rotate_left 1; focus (first | (simp; done) | (simp; omega) | (simp at *; omega)))))) (Below.mono hB2 (by omega)))
          have hs2 := hB2.size
          clear hB2 hb hbc hbf HG2 hX hmk hz0
          obtain ⟨c00, c01, c02, c03, c04, l0, f0⟩ := K0.o5
          obtain ⟨c10, c11, c12, l10, f1⟩ := K1.o3
          obtain ⟨c20, c21, c22, l20, f2⟩ := K2.o3
          go_wp2
          have hgS : w.heap.size + 1 + 1 < w2.heap.size := by omega
          have HK2 := Lib.hid K2
          have ne0 : ¬ w.heap.size = w.heap.size + 1 + 1 := by omega
          have ne1 : ¬ w.heap.size + 1 = w.heap.size + 1 + 1 := by omega
          clear K2
          (try simp only [Act.put, List.setIfInBounds_toArray, List.set_cons_zero, List.set_cons_succ])
          refine RelG.region3 (S := Turns (w.heap.size + 1 + 1) #[(.int .i64 (coolF lk h + y * y)), (.int .i64 lv), .slice (some ⟨w.heap.size + 1 + 1 + 1, 0, none⟩) k k] w2.heap.size) Turns.trans Turns.drawn 14 (by kernel_rfl) (by kernel_rfl) (by kernel_rfl) ?_
          simp only [List.take_succ_cons, List.take_zero, List.drop_succ_cons, List.drop_zero, List.filterMap_cons, List.filterMap_nil]
          iterate 3 (apply RelG.op3 (Turns.refl _ _ _); (focus (first | exact Rel.gno rfl | exact Rel.gyes _ true _ rfl rfl rfl | exact Rel.gyes _ false _ rfl rfl rfl)); (focus (intro a W hb hd hbase; obtain ⟨hc, hf⟩ := hb.old; clear hb hf; simp [Rel.deps, Rel.dep1, Rel.ons, Region.binds, Act.eval] at hd; simp only [Act.eval, List.mem_cons, List.not_mem_nil, not_or, and_imp, or_false, Array.getD_eq_getD_getElem?] at hbase; go_simp; (try go_bits); (try rfl); done)); (try simp only [List.nil_append, List.cons_append]))
          (apply RelG.call3 (fun W W' hb h2 => Turns.of h2 (Nat.lt_of_lt_of_le hgS hb.size) hb.size); (focus (first | exact Rel.gno rfl | exact Rel.gyes _ true _ rfl rfl rfl | exact Rel.gyes _ false _ rfl rfl rfl)); (focus (intro a W hb hd hbase; obtain ⟨hc, hf⟩ := hb.old; clear hb hf; simp [Rel.deps, Rel.dep1, Rel.ons, Region.binds, Act.eval] at hd; simp only [Act.eval, List.mem_cons, List.not_mem_nil, not_or, and_imp, or_false, Array.getD_eq_getD_getElem?] at hbase; go_simp; refine ⟨?_, ?_⟩; rfl; rfl)); (focus (intro W hb; go_at_call 63; exact cooled_any _ _ _ _ _ _ _ _ _ _ _ ⟨a1, a2⟩ ⟨a3, a4⟩)); (try simp only [List.nil_append, List.cons_append]))
          iterate 9 (apply RelG.op3 (Turns.refl _ _ _); (focus (first | exact Rel.gno rfl | exact Rel.gyes _ true _ rfl rfl rfl | exact Rel.gyes _ false _ rfl rfl rfl)); (focus (intro a W hb hd hbase; obtain ⟨hc, hf⟩ := hb.old; clear hb hf; simp [Rel.deps, Rel.dep1, Rel.ons, Region.binds, Act.eval] at hd; simp only [Act.eval, List.mem_cons, List.not_mem_nil, not_or, and_imp, or_false, Array.getD_eq_getD_getElem?] at hbase; go_simp; (try go_bits); (try rfl); done)); (try simp only [List.nil_append, List.cons_append]))
          refine RelG.store3 (Is3 (w.heap.size + 1 + 1) (.int .i64 (coolF lk h + y * y)) (.int .i64 lv) (.slice (some ⟨w.heap.size + 1 + 1 + 1, 0, none⟩) k k)) Is3.stays (Rel.gno rfl) ?_ ?_
          · intro a W hb hd hbase
            refine ⟨_, ?_, Is3.of_put HK2.out hb, Turns.put3 HK2.out hb⟩
            obtain ⟨u0, hu0⟩ := hb.has HK2.out rfl (i := 0) (by simp)
            obtain ⟨u1, hu1⟩ := hb.has HK2.out rfl (i := 1) (by simp)
            obtain ⟨u2, hu2⟩ := hb.has HK2.out rfl (i := 2) (by simp)
            have hf0 := (hb.frozen 0).trans (HK2.out.f 0)
            have hf1 := (hb.frozen 1).trans (HK2.out.f 1)
            have hf2 := (hb.frozen 2).trans (HK2.out.f 2)
            clear hb
            simp [Rel.deps, Rel.dep1, Rel.ons, Region.binds, Act.eval] at hd; simp only [Act.eval, List.mem_cons, List.not_mem_nil, not_or, and_imp, or_false, Array.getD_eq_getD_getElem?] at hbase
            go_simp
          (try simp only [List.nil_append, List.cons_append])
          refine RelG.done3 ?_
          intro x w4 hS hx
          simp only [Rel.facts, Nat.zero_add, Nat.reduceAdd] at hx
          obtain ⟨e0, e1, e2, e3, e4, e5, e6, e7, e8, e9, e10, e11, e12, s13, _⟩ := hx
          simp only [RelG.fill, Nat.zero_add, Nat.reduceAdd, e0, e1, e2, e3, e4, e5, e6, e7, e8, e9, e10, e11, e12]
          simp only [Act.put, List.setIfInBounds_toArray, List.set_cons_zero, List.set_cons_succ]
          clear e0 e1 e2 e3 e4 e5 e6 e7 e8 e9 e10 e11 e12
          obtain ⟨z0, z1, z2⟩ := s13
          have HF := Lib.hid (show Below w.heap.size w w4 from HBW.out.trans (hS.below (by omega) (by omega)))
          have HC := Lib.hid (show Cells w4 (some ⟨w.heap.size + 1 + 1 + 1, 0, none⟩) (pushL ps y) by
            have h5 := HR.out
            intro h6
            obtain ⟨b, off, hA, hl, hc⟩ := h5 h6
            cases hA
            exact ⟨_, _, rfl, Nat.lt_of_lt_of_le hl hS.size, fun j hj => (hS.old.1 _ _ hl (by omega)).trans (hc j hj)⟩)
          have HIS : Hid (IntRow w4 ⟨w.heap.size + 1 + 1 + 1, 0, none⟩) := Lib.hid (by
            obtain ⟨cur, h5⟩ := HIR.out
            exact ⟨cur, (hS.block _ (by show w.heap.size + 1 + 1 + 1 < _; omega) (by show w.heap.size + 1 + 1 + 1 ≠ _; omega)).trans h5⟩)
          clear hS HR HBW HK2 HB2 HIR
          go_wp2
          exact bodyPost_ret (v := .tuple #[.agg #[(.int .i64 (coolF lk h + y * y)), (.int .i64 lv), .slice (some ⟨w.heap.size + 1 + 1 + 1, 0, none⟩) k k], (.int .i64 E)]) (by simp [results, Tryz.results52, go_sem, *]) rfl ⟨⟨_, by show w.heap.size ≤ w.heap.size + 1 + 1 + 1; omega, by rw [HEE.out], HC.out, HIS.out⟩, HF.out⟩
theorem behind_any (lk ht rc h lv y : Int) (ts ps : List Int) (A1 A2 A3 : Option Addr) (c1 n2 c2 c3 : Nat) (w : World) (hlk : 1 ≤ lk ∧ lk ≤ 8) (hh : 0 ≤ h ∧ h ≤ 1099511627776) (hT : Cells w A1 ts) (hP : Cells w A3 ps)
    (hn : ts.length = ps.length + 1) (hn2 : ps.length ≤ 7) (bT : inB 64 ts) (bP : inB 2048 ps) (hy : -2048 ≤ y ∧ y ≤ 2048) :
    Calls Tryz.prog 52 #[.agg #[(.int .i64 lk), (.int .i64 ht), .slice A1 ts.length c1, (.int .i64 rc), .slice A2 n2 c2], .agg #[(.int .i64 h), (.int .i64 lv), .slice A3 ps.length c3], (.int .i64 y)] w fun r w' => (∃ B, w.heap.size ≤ B.block ∧ r = .returned (.tuple #[.agg #[(.int .i64 (coolF lk h + y * y)), (.int .i64 lv), .slice (some B) ps.length ps.length], (.int .i64 (exF ts ps y))]) ∧ Cells w' (some B) (pushL ps y)) ∧ Below w.heap.size w w' :=
  (behind_typed lk ht rc h lv y ts ps A1 A2 A3 c1 n2 c2 c3 w hlk hh hT hP hn hn2 bT bP hy).mono fun _ _ ⟨⟨B, h1, h2, h3, _⟩, h4⟩ => ⟨⟨B, h1, h2, h3⟩, h4⟩
end Go.Proofs.YtdeapbihbhoefaaGreatDoor
