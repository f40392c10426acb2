/- Part 6 of the texts of the claim: RelL, P9, P12. -/
import Derived.Test.YtdeapbihbhoefaaGreatDoorMr5
import Derived.Test.YtdeapbihbhoefaaGreatDoorMr3

/- RelH with one limb more: a slot that operations of the head overwrite is as it was for an operation that all of them wait for. Regions whose order is open, where what is known of a value may name the values that its operation waited for (RelG with one limb more). No program. -/
namespace Go.Proofs.YtdeapbihbhoefaaGreatDoor.RelL
open Go.RowKit
open Rel (dst puts upd puts_agree puts_put Apart apart_of puts_new put_size puts_size puts_other eval_put_same puts_here wanted_of countP_upd left Ln okB sizeB all_listed listed_Ln some_ready ons)

/-- What is known of the value of an operation: the values of all operations, this one's, the world. -/
abbrev DK := (Nat → Value) → Value → World → Prop
/-- .. it names no value but those that the operation waited for. -/
def Loc (o : Oper) (R : DK) : Prop := ∀ x y : Nat → Value, (∀ e ∈ o.after, Region.binds .any e = true → x e.on = y e.on) → ∀ v W, R x v W → R y v W
def GOK (ops : Array Oper) (Γ : List DK) (o : Oper) : Prop :=
  o.guard = none ∨ ∃ g b t, o.guard = some (g, b) ∧ (∃ e ∈ o.after, Region.binds .any e = true ∧ e.on = g) ∧ dst ops g = some t ∧ Γ[g]? = some (fun _ u _ => u = .bool b)
theorem GOK.mono {ops : Array Oper} {Γ Δ : List DK} {o : Oper} (h : GOK ops Γ o) (hsub : ∀ (g : Nat) (K : DK), Γ[g]? = some K → Δ[g]? = some K) : GOK ops Δ o := by
  rcases h with h | ⟨g, b, t, h1, h2, h3, h4⟩
  · exact .inl h
  · exact .inr ⟨g, b, t, h1, h2, h3, hsub _ _ h4⟩

/-- .. and stays known along S. -/
def Stable (S : World → World → Prop) (R : DK) : Prop := ∀ x v W W', R x v W → S W W' → R x v W'

section
variable {P : Program} {ops : Array Oper} {S : World → World → Prop}

/-- What an operation of the head must show: wherever it comes up. -/
def lateB (ops : Array Oper) (n i t : Nat) : Bool := (List.range n).all fun j => (dst ops j != some t) || (match ops[j]? with | some oj => oj.after.toList.any (fun e => Region.binds .any e && e.on == i) | none => false)
theorem late_off {ops : Array Oper} {n i t : Nat} (h : lateB ops n i t = true) {j : Nat} (hj : j < n) (hd : dst ops j = some t) : ∃ oj, ops[j]? = some oj ∧ ∃ e ∈ oj.after, Region.binds .any e = true ∧ e.on = i := by
  have h1 := List.all_eq_true.1 h j (List.mem_range.2 hj)
  cases ho : ops[j]? with
  | none => rw [hd, ho] at h1; simp at h1
  | some oj =>
    rw [hd, ho] at h1
    simp only [bne_self_eq_false, Bool.false_or, List.any_eq_true, Bool.and_eq_true, beq_iff_eq] at h1
    obtain ⟨e, he, h2, h3⟩ := h1
    exact ⟨oj, rfl, e, by simpa using he, h2, h3⟩
theorem puts_off {ops : Array Oper} {x : Nat → Value} {p : Nat → Bool} {t : Tmp} : ∀ (L : List Nat) (a : Act), (∀ j ∈ L, p j = true → dst ops j ≠ some t) → (puts ops x p L a).eval (.tmp t) = a.eval (.tmp t)
  | [], _, _ => rfl
  | j :: L, a, h => by
    unfold puts
    rw [puts_off L _ (fun k hk => h k (by simp [hk]))]
    cases hp : p j with
    | false => simp
    | true =>
      simp only [if_true]
      refine Act.eval_put (fun d hd => ?_)
      rintro h1
      cases h1
      exact h j (by simp) hp hd
def Ob (S : World → World → Prop) (P : Program) (ops : Array Oper) (n : Nat) (w0 : World) (a0 : Act) (i : Nat) (Γ : List DK) (o : Oper) (R : DK) : Prop :=
  ∀ (a : Act) (W : World) (x : Nat → Value), S w0 W → a.tmps.size = a0.tmps.size →
    (∀ e ∈ o.after, Region.binds .any e = true → ∀ t, dst ops e.on = some t → x e.on = a.eval (.tmp t)) →
    (∀ e ∈ o.after, Region.binds .any e = true → ∀ K, Γ[e.on]? = some K → K x (x e.on) W) →
    (∀ t, (∀ j, j < n → dst ops j ≠ some t) → a.eval (.tmp t) = a0.eval (.tmp t)) → (∀ t, lateB ops n i t = true → a.eval (.tmp t) = a0.eval (.tmp t)) →
    ∀ (K : Act → World → Prop) (Q : Exit → Act → World → Prop), (∀ v W', R x v W' → S W W' → K (a.put o.dst v) W') → o.wp P a W K Q


/-- The walk in the order of the text: at each operation something that stays known is chosen. -/
def walk (S : World → World → Prop) (P : Program) (ops : Array Oper) (n : Nat) (w0 : World) (a0 : Act) (T : List DK → Prop) : List DK → List Oper → Prop
  | Γ, [] => T Γ
  | Γ, o :: l => ∃ R, Stable S R ∧ Loc o R ∧ GOK ops Γ o ∧ (dst ops Γ.length = o.dst → Ob S P ops n w0 a0 Γ.length Γ o R) ∧ walk S P ops n w0 a0 T (Γ ++ [R]) l


theorem walk_all {n : Nat} {w0 : World} {a0 : Act} {T : List DK → Prop} : ∀ (l : List Oper) (Γ : List DK), walk S P ops n w0 a0 T Γ l →
    ∃ Δ : List DK, Δ.length = l.length ∧ T (Γ ++ Δ) ∧ ∀ k o, l[k]? = some o → ∃ R, Δ[k]? = some R ∧ Stable S R ∧ Loc o R ∧ GOK ops (Γ ++ Δ.take k) o ∧ (dst ops (Γ.length + k) = o.dst → Ob S P ops n w0 a0 (Γ.length + k) (Γ ++ Δ.take k) o R)
  | [], Γ, h => ⟨[], rfl, by simpa [walk] using h, fun k o hk => by simp at hk⟩
  | o :: l, Γ, h => by
    obtain ⟨R, hs, hlc, hg, hob, hw⟩ := h
    obtain ⟨Δ, hl, hT, hall⟩ := walk_all l _ hw
    refine ⟨R :: Δ, by simp [hl], by simpa using hT, fun k o' hk => ?_⟩
    cases k with
    | zero =>
      obtain rfl : o = o' := by simpa using hk
      exact ⟨R, rfl, hs, hlc, by simpa using hg, by simpa using hob⟩
    | succ k =>
      obtain ⟨R', h1, h2, h2', h3, h4⟩ := hall k o' (by simpa using hk)
      refine ⟨R', by simpa using h1, h2, h2', by simpa using h3, fun hd => ?_⟩
      have := h4 (by rw [← hd]; congr 1; simp; omega)
      have e : (Γ ++ [R]).length + k = Γ.length + (k + 1) := by simp; omega
      rw [e] at this
      simpa using this

theorem Ob.mono {n i : Nat} {w0 : World} {a0 : Act} {Γ Δ : List DK} {o : Oper} {R : DK} (h : Ob S P ops n w0 a0 i Γ o R) (hsub : ∀ e ∈ o.after, ∀ K, Γ[e.on]? = some K → Δ[e.on]? = some K) : Ob S P ops n w0 a0 i Δ o R :=
  fun a W x hb hz hx hd hbase hlt K Q hK => h a W x hb hz hx (fun e he hbd K' hK' => hd e he hbd K' (hsub e he K' hK')) hbase hlt K Q hK

/-- What holds while the head is on its way. -/
structure Inv (S : World → World → Prop) (ops : Array Oper) (n : Nat) (w0 : World) (a0 : Act) (Γ : List DK) (listed : Array Bool) (a : Act) (W : World) : Prop where
  below : S w0 W
  vals : ∃ x : Nat → Value, a = puts ops x (fun j => listed.getD j false) (List.range n) a0 ∧ ∀ j, j < n → listed.getD j false = true → ∀ K, Γ[j]? = some K → K x (x j) W


theorem go (ht' : ∀ a b c, S a b → S b c → S a c) {n : Nat} {Q : Exit → Act → World → Prop} {w0 : World} {a0 : Act} {Γ : List DK} (hok : okB ops n = true) (hsz : sizeB ops n a0.tmps.size = true)
    (hΓ : ∀ k, k < n → ∃ o R, ops[k]? = some o ∧ Γ[k]? = some R ∧ Stable S R ∧ Loc o R ∧ GOK ops Γ o ∧ Ob S P ops n w0 a0 k Γ o R)
    (hend : ∀ (x : Nat → Value) (W : World), S w0 W → (∀ j, j < n → ∀ K, Γ[j]? = some K → K x (x j) W) → wpAny P .any ops Q (ops.size - n) (Ln n ops.size) (puts ops x (fun _ => true) (List.range n) a0) W) :
    ∀ (f : Nat) (listed : Array Bool) (a : Act) (W : World), HeadInv .any ops n listed → left n listed = f → Inv S ops n w0 a0 Γ listed a W → wpAny P .any ops Q (f + (ops.size - n)) listed a W := by
  simp only [okB, Bool.and_eq_true, decide_eq_true_eq] at hok
  obtain ⟨⟨⟨⟨⟨hn, hs⟩, hc⟩, _⟩, hap⟩, hback⟩ := hok
  have hap := apart_of hap
  intro f
  induction f with
  | zero =>
    intro listed a W inv hl hI
    obtain ⟨hb, x, rfl, hx⟩ := hI
    have hall := all_listed hl
    rw [Nat.zero_add]
    rw [puts_agree (p' := fun _ => true) (x' := x) (List.range n) a0 (fun j hj => ⟨hall j (List.mem_range.1 hj), fun _ => rfl⟩), listed_Ln inv hl (by omega)]
    exact hend x W hb (fun j hj K hK => hx j hj (hall j hj) K hK)
  | succ f ih =>
    intro listed a W inv hl hI
    have hex : ∃ k, k < n ∧ listed.getD k true = false := by
      apply Classical.byContradiction
      intro hno
      have : left n listed = 0 := List.countP_eq_zero.2 (fun j hj => by
        have hj := List.mem_range.1 hj
        have hjs : j < listed.size := by rw [inv.size]; omega
        cases h : listed.getD j false with
        | true => simp
        | false => exact absurd ⟨j, hj, getD_in hjs h⟩ hno)
      omega
    obtain ⟨k, hk, hun⟩ := hex
    rw [show f + 1 + (ops.size - n) = (f + (ops.size - n)) + 1 by omega]
    refine ⟨fun h0 => ?_, fun i hi => ?_⟩
    · obtain ⟨i, hi⟩ := some_ready inv hback hn (k + 1) k (by omega) hk hun
      rw [h0] at hi
      cases hi
    have hin : i < n := by
      rcases Nat.lt_or_ge i n with h | h
      · exact h
      · exact absurd hi (tail_waits hs hc hn inv _ k rfl hk hun i h)
    obtain ⟨hiun, oi, hoi, hdeps⟩ := mem_ready.1 hi
    obtain ⟨o, R, ho, hR, hst, hlc, hg, hob⟩ := hΓ i hin
    obtain rfl : oi = o := Option.some.inj (hoi.symm.trans ho)
    obtain ⟨hb, x, rfl, hx⟩ := hI
    have hdi : dst ops i = oi.dst := by simp [dst, ho]
    have his : i < listed.size := by rw [inv.size]; omega
    have hif : listed.getD i false = false := getD_both hiun
    have hszt : ∀ j t, j < n → dst ops j = some t → t < a0.tmps.size := fun j t hj hd => by
      have := List.all_eq_true.1 hsz j (List.mem_range.2 hj)
      simpa [hd] using this
    have back : ∀ e ∈ oi.after, Region.binds .any e = true → e.on < i := fun e he hbd => by
      have h1 := List.all_eq_true.1 hback i (List.mem_range.2 (by omega))
      simp only [ho] at h1
      simpa [hbd] using Array.all_eq_true'.1 h1 e he
    unfold wpOp
    simp only [ho]
    have hwant : Region.wanted oi (yielded ops (puts ops x (fun j => listed.getD j false) (List.range n) a0).tmps) = true := by
      rcases hg with hg | ⟨g, b, t, hg, ⟨e, he, hbd, rfl⟩, hd, hK⟩
      · simp [Region.wanted, hg]
      · have hel := hdeps e he hbd
        have hen : e.on < n := by have := back e he hbd; omega
        have h1 := puts_here (x := x) (p := fun j => listed.getD j false) hap hen hel hd (List.range n) a0 (List.nodup_range) (List.mem_range.2 hen) (fun j hj => List.mem_range.1 hj) (hszt _ _ hen hd)
        have h2 : x e.on = .bool b := hx e.on hen hel _ hK
        have h3 : t < (puts ops x (fun j => listed.getD j false) (List.range n) a0).tmps.size := by rw [puts_size]; exact hszt _ _ hen hd
        rw [h2] at h1
        exact wanted_of hg hd h1 h3
    rw [if_pos hwant]
    refine .inl (hob _ W x hb (puts_size _ _) ?_ ?_ ?_ ?_ _ _ ?_)
    · intro e he hbd t ht
      have hel := hdeps e he hbd
      have hen : e.on < n := by have := back e he hbd; omega
      rw [puts_here hap hen hel ht (List.range n) a0 (List.nodup_range) (List.mem_range.2 hen) (fun j hj => List.mem_range.1 hj) (hszt _ _ hen ht)]
    · intro e he hbd K hK
      exact hx e.on (by have := back e he hbd; omega) (hdeps e he hbd) K hK
    · intro t ht
      exact puts_other _ _ (fun j hj => ht j (List.mem_range.1 hj))
    · intro t ht
      refine puts_off _ _ (fun j hj hp hd => ?_)
      obtain ⟨oj, hoj, e, he, hbd, hon⟩ := late_off ht (List.mem_range.1 hj) hd
      have h1 := inv.closed j oj hoj hp e he hbd
      rw [hon, hif] at h1
      cases h1
    · intro v W' hv hb'
      have hget : ∀ j, (listed.setIfInBounds i true).getD j false = upd (fun j => listed.getD j false) i true j := by
        intro j
        by_cases hji : j = i
        · subst hji
          simp [upd, his]
        · rw [getD_set_ne false (Ne.symm hji)]
          simp [upd, hji]
      refine ih _ _ W' (inv.set hi hin) ?_ ⟨ht' _ _ _ hb hb', upd x i v, ?_, ?_⟩
      · have h1 := countP_upd (i := i) (p := fun j => !listed.getD j false) (by simp [hif]) (List.range n) List.nodup_range (List.mem_range.2 hin)
        have h2 : left n (listed.setIfInBounds i true) = (List.range n).countP (upd (fun j => !listed.getD j false) i false) := by
          unfold left
          congr 1
          funext j
          rw [hget j]
          by_cases hji : j = i <;> simp [upd, hji]
        unfold left at hl
        omega
      · rw [← hdi, puts_new hap hin hif (List.range n) a0 List.nodup_range (List.mem_range.2 hin) (fun j hj => List.mem_range.1 hj)]
        exact puts_agree _ _ (fun j _ => ⟨(hget j).symm, fun _ => rfl⟩)
      · intro j hj hlj K hK
        rw [hget j] at hlj
        by_cases hji : j = i
        · subst hji
          obtain rfl : R = K := Option.some.inj (hR.symm.trans hK)
          have h1 : R (upd x j v) v W' := hlc x (upd x j v) (fun e he hbd => by
            have := back e he hbd
            simp [upd, show e.on ≠ j by omega]) v W' hv
          simpa [upd] using h1
        · have e1 : upd x i v j = x j := by simp [upd, hji]
          have e2 : listed.getD j false = true := by simpa [upd, hji] using hlj
          rw [e1]
          obtain ⟨oj, R', hoj', hR', hst', hlc', _⟩ := hΓ j hj
          obtain rfl : R' = K := Option.some.inj (hR'.symm.trans hK)
          refine hlc' x (upd x i v) (fun e he hbd => ?_) _ _ (hst' _ _ _ _ (hx j hj e2 _ hK) hb')
          have h1 := inv.closed j oj hoj' e2 e he hbd
          have h2 : e.on ≠ i := fun h => by rw [h, hif] at h1; cases h1
          simp [upd, h2]

/-- The frame with all values of the head. -/
def fill : List Oper → Nat → (Nat → Value) → Act → Act
  | [], _, _, a => a
  | o :: l, k, x, a => fill l (k + 1) x (a.put o.dst (x k))
theorem fill_puts {x : Nat → Value} : ∀ (l : List Oper) (k : Nat) (a : Act), (∀ j, j < l.length → l[j]? = ops[k + j]?) → fill l k x a = puts ops x (fun _ => true) (List.range' k l.length) a
  | [], _, _, _ => rfl
  | o :: l, k, a, h => by
    have h0 : ops[k]? = some o := by simpa using (h 0 (by simp)).symm
    have hd : dst ops k = o.dst := by simp [dst, h0]
    simp only [fill, List.length_cons, List.range'_succ, puts, if_true, hd]
    exact fill_puts l (k + 1) _ (fun j hj => by have := h (j + 1) (by simp; omega); simpa [Nat.add_assoc, Nat.add_comm 1 j] using this)

/-- ████ The region. -/
theorem region_w (ht' : ∀ a b c, S a b → S b c → S a c) (hdr : ∀ W, S W { W with drawn := W.drawn + 1 }) {Q : Exit → Act → World → Prop} {a : Act} {w : World} {l : List Oper} (n : Nat) (hok : okB l.toArray n = true) (hsz : sizeB l.toArray n a.tmps.size = true)
    (h : walk S P l.toArray n w a (fun (Γ : List DK) => ∀ (x : Nat → Value) (W : World), S w W → (∀ (j : Nat) (K : DK), Γ[j]? = some K → K x (x j) W) → wpList P l.toArray Q (l.drop n) (fill (l.take n) 0 x a) W) [] (l.take n)) :
    wpAny P .any l.toArray Q l.toArray.size (Array.replicate l.toArray.size false) a { w with drawn := w.drawn + 1 } := by
  have hok' := hok
  simp only [okB, Bool.and_eq_true, decide_eq_true_eq] at hok'
  obtain ⟨⟨⟨⟨⟨hn, _⟩, _⟩, hseq⟩, _⟩, hback⟩ := hok'
  have hn' : n < l.length := by simpa using hn
  have htl : (l.take n).length = n := by simp; omega
  obtain ⟨Δ, hlen, hT, hall⟩ := walk_all _ _ h
  rw [List.nil_append] at hT
  rw [htl] at hlen
  have hget : ∀ k, k < n → (l.take n)[k]? = l.toArray[k]? := fun k hk => by simp [List.getElem?_take, hk]
  have hΓ : ∀ k, k < n → ∃ o R, l.toArray[k]? = some o ∧ Δ[k]? = some R ∧ Stable S R ∧ Loc o R ∧ GOK l.toArray Δ o ∧ Ob S P l.toArray n w a k Δ o R := by
    intro k hk
    obtain ⟨o, ho⟩ : ∃ o, l.toArray[k]? = some o := ⟨_, Array.getElem?_eq_getElem (by simp; omega)⟩
    obtain ⟨R, h1, h2, h2', h3, h4⟩ := hall k o (by rw [hget k hk, ho])
    rw [List.nil_append] at h3
    simp only [List.length_nil, Nat.zero_add] at h4
    refine ⟨o, R, ho, h1, h2, h2', h3.mono (fun g K hK => by
      rw [List.getElem?_take] at hK
      split at hK
      · exact hK
      · cases hK), (h4 (by simp [dst, ho])).mono fun e he K hK => ?_⟩
    rw [List.nil_append] at hK
    rw [List.getElem?_take] at hK
    split at hK
    · exact hK
    · cases hK
  have inv0 : HeadInv .any l.toArray n (Array.replicate l.toArray.size false) :=
    ⟨by simp, fun j oj _ hl => (by rw [getD_replicate_false] at hl; cases hl), fun t _ ht => getD_in (by simpa using ht) (getD_replicate_false _ _)⟩
  have hleft : left n (Array.replicate l.toArray.size false) = n := by
    unfold left
    rw [List.countP_eq_length.2 (fun j _ => by rw [getD_replicate_false]; rfl), List.length_range]
  have hputs : ∀ x, puts l.toArray x (fun _ => true) (List.range n) a = fill (l.take n) 0 x a := fun x => by
    rw [fill_puts (ops := l.toArray) (l.take n) 0 a (fun j hj => by rw [htl] at hj; rw [hget j hj, Nat.zero_add]), htl, List.range_eq_range']
  have H := go ht' (P := P) (Q := Q) (w0 := w) (a0 := a) hok hsz hΓ (fun x W hb hx => by
    have hdl : (l.drop n).length = l.toArray.size - n := by simp
    have := wpAny_of_seq (md := .any) (Q' := Q) (ops := l.toArray) (P := P) (l.drop n) n (Ln n l.toArray.size) (fill (l.take n) 0 x a) W (fun j => by simp [List.getElem?_drop]) (by rw [hdl]; exact hseq)
      (hT x W hb (fun j K hK => hx j (by
        have := (List.getElem?_eq_some_iff.1 hK).1
        omega) K hK))
    rw [hputs x, ← hdl]
    exact this) n _ a { w with drawn := w.drawn + 1 } inv0 hleft ⟨hdr w, fun _ => undef, by
      rw [puts_agree (p' := fun _ => false) (x' := fun _ => undef) (List.range n) a (fun j _ => ⟨getD_replicate_false _ _, fun _ => rfl⟩)]
      exact (show ∀ (L : List Nat) (b : Act), b = puts l.toArray (fun _ => undef) (fun _ => false) L b from fun L => by
        induction L with
        | nil => intro b; rfl
        | cons j L ih => intro b; unfold puts; simpa using ih b) _ _, fun j _ hl => by rw [getD_replicate_false] at hl; cases hl⟩
  have e : n + (l.toArray.size - n) = l.toArray.size := by omega
  rw [e] at H
  exact H
end

abbrev Ctx := List (Option Tmp × DK)
def dep1 (x : Nat → Value) (j : Nat) : Option (Option Tmp × DK) → Act → World → Prop
  | some (some t, K), a, W => x j = a.eval (.tmp t) ∧ K x (a.eval (.tmp t)) W
  | _, _, _ => True
def deps (x : Nat → Value) (Γ : Ctx) (a : Act) (W : World) : List Nat → Prop
  | [] => True
  | j :: js => dep1 x j Γ[j]? a W ∧ deps x Γ a W js
theorem deps_of {x : Nat → Value} {Γ : Ctx} {a : Act} {W : World} : ∀ (js : List Nat), (∀ j ∈ js, dep1 x j Γ[j]? a W) → deps x Γ a W js
  | [], _ => trivial
  | j :: js, h => ⟨h j (by simp), deps_of js (fun k hk => h k (by simp [hk]))⟩
def facts (x : Nat → Value) (W : World) : Nat → Ctx → Prop
  | _, [] => True
  | k, (_, K) :: l => K x (x k) W ∧ facts x W (k + 1) l
theorem facts_of {x : Nat → Value} {W : World} : ∀ (l : Ctx) (k : Nat), (∀ (j : Nat) (K : DK), (l.map (·.2))[j]? = some K → K x (x (k + j)) W) → facts x W k l
  | [], _, _ => trivial
  | (d, K) :: l, k, h => ⟨h 0 K rfl, facts_of l (k + 1) (fun j K' hj => by have := h (j + 1) K' (by simpa using hj); rw [show k + 1 + j = k + (j + 1) by omega]; exact this)⟩
def GOK3 (Γ : Ctx) (o : Oper) : Prop := o.guard = none ∨ ∃ g b t, o.guard = some (g, b) ∧ g ∈ ons o ∧ Γ[g]? = some (some t, fun _ u _ => u = .bool b)
theorem gno {Γ : Ctx} {o : Oper} (h : o.guard = none) : GOK3 Γ o := .inl h
def Ob3 (S : World → World → Prop) (P : Program) (LT : Nat → Nat → Bool) (DS : List Tmp) (w0 : World) (a0 : Act) (Γ : Ctx) (o : Oper) (R : DK) : Prop :=
  ∀ (a : Act) (W : World) (x : Nat → Value), S w0 W → deps x Γ a W (ons o) → (∀ t, t ∉ DS → a.eval (.tmp t) = a0.eval (.tmp t)) → (∀ t, LT Γ.length t = true → a.eval (.tmp t) = a0.eval (.tmp t)) →
    ∀ (K : Act → World → Prop) (Q : Exit → Act → World → Prop), (∀ v W', R x v W' → S W W' → K (a.put o.dst v) W') → o.wp P a W K Q

def walk3 (S : World → World → Prop) (P : Program) (LT : Nat → Nat → Bool) (DS : List Tmp) (w0 : World) (a0 : Act) (T : Ctx → Prop) : Ctx → List Oper → Prop
  | Γ, [] => T Γ
  | Γ, o :: l => ∃ R, Stable S R ∧ Loc o R ∧ GOK3 Γ o ∧ Ob3 S P LT DS w0 a0 Γ o R ∧ walk3 S P LT DS w0 a0 T (Γ ++ [(o.dst, R)]) l
theorem walk_of_walk3 {S : World → World → Prop} {P : Program} {ops : Array Oper} {n : Nat} {DS : List Tmp} {LT : Nat → Nat → Bool} (hLT : LT = lateB ops n) {w0 : World} {a0 : Act} {T : Ctx → Prop} {T' : List DK → Prop} (hDS : ∀ t, t ∉ DS → ∀ j, j < n → dst ops j ≠ some t)
    (hT : ∀ Γ, T Γ → T' (Γ.map (·.2))) :
    ∀ (l : List Oper) (Γ : Ctx), (∀ j, j < l.length → l[j]? = ops[Γ.length + j]?) → (∀ j d R, Γ[j]? = some (d, R) → dst ops j = d) → walk3 S P LT DS w0 a0 T Γ l → walk S P ops n w0 a0 T' (Γ.map (·.2)) l
  | [], Γ, _, _, h => hT Γ h
  | o :: l, Γ, hl, hΓ, h => by
    obtain ⟨R, hs, hlc, hg, hob, hw⟩ := h
    have h0 : ops[Γ.length]? = some o := by simpa using (hl 0 (by simp)).symm
    have hg' : GOK ops (Γ.map (·.2)) o := by
      rcases hg with hg | ⟨g, b, t, hg, hin, hΓg⟩
      · exact .inl hg
      · obtain ⟨e, he, rfl⟩ := List.mem_map.1 hin
        obtain ⟨he1, he2⟩ := List.mem_filter.1 he
        exact .inr ⟨e.on, b, t, hg, ⟨e, by simpa using he1, he2, rfl⟩, hΓ _ _ _ hΓg, by simp [hΓg]⟩
    refine ⟨R, hs, hlc, hg', fun _ => ?_, ?_⟩
    · intro a W x hb hz hx hd hbase hlt K Q hK
      refine hob a W x hb (deps_of _ fun j hj => ?_) (fun t ht => hbase t (fun j hj => hDS t ht j hj)) (fun t ht => hlt t (by rw [List.length_map, ← hLT]; exact ht)) K Q hK
      obtain ⟨e, he, rfl⟩ := List.mem_map.1 hj
      obtain ⟨he1, he2⟩ := List.mem_filter.1 he
      have he' : e ∈ o.after := by simpa using he1
      cases hc : Γ[e.on]? with
      | none => trivial
      | some c =>
        obtain ⟨d, K'⟩ := c
        cases d with
        | none => trivial
        | some t =>
          have h1 := hx e he' he2 t (hΓ _ _ _ hc)
          have h2 := hd e he' he2 K' (by simp [hc])
          exact ⟨h1, h1 ▸ h2⟩
    · have := walk_of_walk3 hLT hDS hT l (Γ ++ [(o.dst, R)]) (fun j hj => by
        have := hl (j + 1) (by simp; omega)
        simpa [Nat.add_assoc, Nat.add_comm 1 j] using this) (fun j d R' hj => by
        rcases Nat.lt_or_ge j Γ.length with h | h
        · rw [List.getElem?_append_left h] at hj
          exact hΓ j d R' hj
        · have hjl : j < (Γ ++ [(o.dst, R)]).length := (List.getElem?_eq_some_iff.1 hj).1
          obtain rfl : j = Γ.length := by simp at hjl; omega
          simp at hj
          rw [← hj.1]
          simp [dst, h0]) hw
      simpa using this

theorem region3_w {S : World → World → Prop} (ht' : ∀ a b c, S a b → S b c → S a c) (hdr : ∀ W, S W { W with drawn := W.drawn + 1 }) {P : Program} {Q : Exit → Act → World → Prop} {a : Act} {w : World} {l : List Oper} (n : Nat) (hok : okB l.toArray n = true) (hsz : sizeB l.toArray n a.tmps.size = true)
    (h : walk3 S P (lateB l.toArray n) ((l.take n).filterMap (·.dst)) w a (fun Γ => ∀ (x : Nat → Value) (W : World), S w W → facts x W 0 Γ → wpList P l.toArray Q (l.drop n) (fill (l.take n) 0 x a) W) [] (l.take n)) :
    wpAny P .any l.toArray Q l.toArray.size (Array.replicate l.toArray.size false) a { w with drawn := w.drawn + 1 } := by
  have hn' : n < l.length := by
    simp only [okB, Bool.and_eq_true, decide_eq_true_eq] at hok
    simpa using hok.1.1.1.1.1
  have htl : (l.take n).length = n := by simp; omega
  refine region_w ht' hdr n hok hsz (walk_of_walk3 (n := n) rfl (fun t ht j hj hd => ht ?_) (fun Γ hT x W hb hx => hT x W hb (facts_of Γ 0 (fun j K hj => by rw [Nat.zero_add]; exact hx j K hj))) (l.take n) [] (fun j hj => by
      rw [htl] at hj
      simp [List.getElem?_take, hj]) (fun j d R hj => by simp at hj) h)
  have hlj : j < l.length := by omega
  simp [dst, hlj] at hd
  exact List.mem_filterMap.2 ⟨l[j], List.mem_iff_getElem.2 ⟨j, by omega, by simp⟩, hd⟩
theorem region3 {S : World → World → Prop} (ht' : ∀ a b c, S a b → S b c → S a c) (hdr : ∀ W, S W { W with drawn := W.drawn + 1 }) {P : Program} {id : Nat} {Q : Exit → Act → World → Prop} {a : Act} {w : World} {l : List Oper} (n : Nat) (hm : P.follows .mixedOrders = true) (hok : okB l.toArray n = true) (hsz : sizeB l.toArray n a.tmps.size = true)
    (h : walk3 S P (lateB l.toArray n) ((l.take n).filterMap (·.dst)) w a (fun Γ => ∀ (x : Nat → Value) (W : World), S w W → facts x W 0 Γ → wpList P l.toArray Q (l.drop n) (fill (l.take n) 0 x a) W) [] (l.take n)) :
    (Code.region id l.toArray true).wp P Q a w := wp_region_any hm (region3_w ht' hdr n hok hsz h)
section
variable {S : World → World → Prop} {P : Program} {LT : Nat → Nat → Bool} {DS : List Tmp} {w0 : World} {a0 : Act} {T : Ctx → Prop} {Γ : Ctx} {o : Oper} {rest : List Oper}

theorem loc_const {o : Oper} {R : Value → World → Prop} : Loc o (fun _ => R) := fun _ _ _ _ _ h => h
theorem op3 (hr : ∀ W, S W W) (v : Value) (hg : GOK3 Γ o) (h : ∀ (a : Act) (W : World) (x : Nat → Value), S w0 W → deps x Γ a W (ons o) → (∀ t, t ∉ DS → a.eval (.tmp t) = a0.eval (.tmp t)) → (execOp a.eval o).run P W = .ok (.value v) W)
    (hn : walk3 S P LT DS w0 a0 T (Γ ++ [(o.dst, fun _ u _ => u = v)]) rest) : walk3 S P LT DS w0 a0 T Γ (o :: rest) :=
  ⟨_, fun _ _ _ _ h _ => h, loc_const, hg, fun a W x hb hd hbase _ K Q hK => by
    unfold Oper.wp
    rw [h a W x hb hd hbase]
    exact hK v W rfl (hr W), hn⟩
/-- One operation that yields a value, and may turn the world. -/
theorem opW3 (R : DK) (hs : Stable S R) (hl : Loc o R) (hg : GOK3 Γ o)
    (h : ∀ (a : Act) (W : World) (x : Nat → Value), S w0 W → deps x Γ a W (ons o) → (∀ t, t ∉ DS → a.eval (.tmp t) = a0.eval (.tmp t)) → ∃ v W', (execOp a.eval o).run P W = .ok (.value v) W' ∧ R x v W' ∧ S W W')
    (hn : walk3 S P LT DS w0 a0 T (Γ ++ [(o.dst, R)]) rest) : walk3 S P LT DS w0 a0 T Γ (o :: rest) :=
  ⟨R, hs, hl, hg, fun a W x hb hd hbase _ K Q hK => by
    obtain ⟨v, W', hrun, hR, hS⟩ := h a W x hb hd hbase
    unfold Oper.wp
    rw [hrun]
    exact hK v W' hR hS, hn⟩
/-- An append. -/
theorem app3 (R : DK) (hs : Stable S R) (hl : Loc o R) (s y : Operand) (t : TypeId) (hop : o.op = .call { callee := .builtin .append, args := #[s, y], argTypes := #[t, t] }) (hg : GOK3 Γ o)
    (h : ∀ (a : Act) (W : World) (x : Nat → Value), S w0 W → deps x Γ a W (ons o) → (∀ t, t ∉ DS → a.eval (.tmp t) = a0.eval (.tmp t)) → ∃ v W', (Builtin.append_ #[t, t] o.type #[a.eval s, a.eval y]).run P W = .ok v W' ∧ R x v W' ∧ S W W')
    (hn : walk3 S P LT DS w0 a0 T (Γ ++ [(o.dst, R)]) rest) : walk3 S P LT DS w0 a0 T Γ (o :: rest) :=
  ⟨R, hs, hl, hg, fun a W x hb hd hbase _ K Q hK => by
    obtain ⟨v, W', hrun, hR, hS⟩ := h a W x hb hd hbase
    unfold Oper.wp
    simp [execOp, hop, resolve, invoke, builtin, hrun, Result.andThen]
    exact hK v W' hR hS, hn⟩
/-- A copy of a slot that later operations of the head overwrite. -/
theorem late3 (hr : ∀ W, S W W) (t : Nat) (v : Value) (ho : o.op = .move (.tmp t)) (hl : LT Γ.length t = true) (hv : a0.eval (.tmp t) = v) (hg : GOK3 Γ o)
    (hn : walk3 S P LT DS w0 a0 T (Γ ++ [(o.dst, fun _ u _ => u = v)]) rest) : walk3 S P LT DS w0 a0 T Γ (o :: rest) :=
  ⟨_, fun _ _ _ _ h _ => h, loc_const, hg, fun a W x hb hd hbase hlt K Q hK => by
    unfold Oper.wp
    have e : (execOp a.eval o).run P W = .ok (.value v) W := by
      unfold execOp
      simp [ho, hlt t hl, hv]
    rw [e]
    exact hK v W rfl (hr W), hn⟩
theorem done3 (h : T Γ) : walk3 S P LT DS w0 a0 T Γ [] := h
end
end Go.Proofs.YtdeapbihbhoefaaGreatDoor.RelL

/- Several slices of integers, each in a row of its own; two of them grow in one drawn region. No function of the program. -/
namespace Go.Proofs.YtdeapbihbhoefaaGreatDoor
open Go.RowKit
open Calm (bcell Blk)
def Apt (u v : Value) : Prop := ∀ k, u.ownBlock = some k → v.ownBlock ≠ some k
theorem Apt.symm {u v : Value} (h : Apt u v) : Apt v u := fun k hv hu => h k hu hv
def OwnI (W : World) (base : Nat) (p : Value × List Int) : Prop := W.ownsRow base 3 1 p.1 p.2.length (p.2.map fun z => (.int .i64 z))
/-- slices of integers, no two of them in one row. -/
def Rows (W : World) (base : Nat) (ps : List (Value × List Int)) : Prop := (∀ p ∈ ps, OwnI W base p) ∧ ps.Pairwise (fun p q => Apt p.1 q.1)
theorem Rows.kept {W W' : World} {base : Nat} {ps : List (Value × List Int)} (h : Rows W base ps) (hb : ∀ p ∈ ps, ∀ k, p.1.ownBlock = some k → W'.heap[k]? = W.heap[k]?) : Rows W' base ps :=
  ⟨fun p hp => ownsRow_block (h.1 p hp) (hb p hp), h.2⟩
theorem Rows.below {W W' : World} {base : Nat} {ps : List (Value × List Int)} (h : Rows W base ps) (hb : Below W.heap.size W W') : Rows W' base ps :=
  h.kept fun p hp k hk => hb.block k ((h.1 p hp).lt k hk).2
theorem Rows.setCell {W : World} {base : Nat} {ps : List (Value × List Int)} (h : Rows W base ps) {q : Addr} (hq : q.block < base) (v : Value) : Rows (W.setCell q v) base ps :=
  h.kept fun p hp k hk => Below.heap_setCell _ _ _ _ (by have := ((h.1 p hp).lt k hk).1; omega)
theorem Rows.rot {W : World} {base : Nat} {a b c d e f : Value × List Int} (h : Rows W base [a, b, c, d, e, f]) : Rows W base [c, d, e, f, a, b] := by
  obtain ⟨h1, h2⟩ := h
  refine ⟨fun p hp => h1 p (by simp at hp ⊢; rcases hp with h | h | h | h | h | h <;> simp [h]), ?_⟩
  simp only [List.pairwise_cons, List.mem_cons, List.not_mem_nil, or_false, forall_eq_or_imp, forall_eq, List.Pairwise.nil, and_true, false_implies, implies_true] at h2 ⊢
  obtain ⟨⟨a1, a2, a3, a4, a5⟩, ⟨b1, b2, b3, b4⟩, ⟨c1, c2, c3⟩, ⟨d1, d2⟩, e1⟩ := h2
  exact ⟨⟨c1, c2, c3, a2.symm, b1.symm⟩, ⟨d1, d2, a3.symm, b2.symm⟩, ⟨e1, a4.symm, b3.symm⟩, ⟨a5.symm, b4.symm⟩, a1⟩
theorem pair_grw (base : Nat) (u1 u2 : Value) (l1 l2 : List Int) (ps : List (Value × List Int)) (x1 x2 : Int) (W0 : World) (hR : Rows W0 base ((u1, l1) :: (u2, l2) :: ps)) (hb : base ≤ W0.heap.size) (h1 : l1.length ≤ 100000) (h2 : l2.length ≤ 100000) :
    ∃ (T : Nat → Obj → Prop) (R1 : Value → World → Prop) (R2 : Value → Value → World → Prop), (∀ k o, T k o → (base ≤ k ∧ k < W0.heap.size) ∧ (u1.ownBlock = some k ∨ u2.ownBlock = some k)) ∧
      (∀ v W W', R1 v W → Grw T W W' → R1 v W') ∧ (∀ v1 v W W', R2 v1 v W → Grw T W W' → R2 v1 v W') ∧
      (∀ W, Grw T W0 W → ∀ b c, W.cell? ⟨b, 0, none⟩ = some (.int .i64 x1) → ∃ v' W', (Builtin.append_ #[22, 22] 22 #[u1, .slice (some ⟨b, 0, none⟩) 1 c]).run Tryz.prog W = .ok v' W' ∧ R1 v' W' ∧ Grw T W W') ∧
      (∀ W v1, Grw T W0 W → R1 v1 W → ∀ b c, W.cell? ⟨b, 0, none⟩ = some (.int .i64 x2) → ∃ v' W', (Builtin.append_ #[22, 22] 22 #[u2, .slice (some ⟨b, 0, none⟩) 1 c]).run Tryz.prog W = .ok v' W' ∧ R2 v1 v' W' ∧ Grw T W W') ∧
      (∀ W v1 v2, Grw T W0 W → R1 v1 W → R2 v1 v2 W → Rows W base ((v1, l1 ++ [x1]) :: (v2, l2 ++ [x2]) :: ps)) := by
  obtain ⟨i1, hi1, jz0, jz1, jz2⟩ := info_parts Tryz.infoI
  obtain ⟨hO, hP⟩ := hR
  have hO1 := hO (u1, l1) (by simp)
  have hO2 := hO (u2, l2) (by simp)
  simp only [List.pairwise_cons, List.mem_cons, forall_eq_or_imp] at hP
  obtain ⟨⟨p12, p1⟩, p2, pp⟩ := hP
  obtain ⟨g1, o1, q1, s1⟩ := append_grw (P := Tryz.prog) base 22 22 3 i1 _ 8 Tryz.underlying22 hi1 jz0 jz1 jz2 rfl u1 l1.length _ (.int .i64 x1) rfl W0 hO1 hb (by unfold maxLen; omega) (by omega)
  obtain ⟨g2, o2, q2, s2⟩ := append_grw (P := Tryz.prog) base 22 22 3 i1 _ 8 Tryz.underlying22 hi1 jz0 jz1 jz2 rfl u2 l2.length _ (.int .i64 x2) rfl W0 hO2 hb (by unfold maxLen; omega) (by omega)
  have n12 : ∀ k, g1 = some k → g2 ≠ some k := fun k h h' => p12 k (q1 k h).1 (q2 k h').1
  refine ⟨fun k o => g1 = some k ∧ o = o1 ∨ g2 = some k ∧ o = o2, RowAt base 3 g1 o1 W0.heap.size (l1.length + 1) (l1.map (fun z => ((.int .i64 z) : Value)) ++ [(.int .i64 x1)]), fun v1 v W => RowAt base 3 g2 o2 W0.heap.size (l2.length + 1) (l2.map (fun z => ((.int .i64 z) : Value)) ++ [(.int .i64 x2)]) v W ∧ Apt v1 v, ?_, ?_, ?_, ?_, ?_, ?_⟩
  · rintro k o (⟨h, _⟩ | ⟨h, _⟩)
    · exact ⟨(q1 k h).2, .inl (q1 k h).1⟩
    · exact ⟨(q2 k h).2, .inr (q2 k h).1⟩
  · refine fun v W W' h hS => RowAt.stable ?_ ?_ v W W' h hS
    · rintro k o (⟨h, _⟩ | ⟨h, _⟩)
      · exact (q1 k h).2.2
      · exact (q2 k h).2.2
    · rintro k o hk (⟨_, h⟩ | ⟨h, _⟩)
      · exact h
      · exact absurd h (n12 k hk)
  · refine fun v1 v W W' h hS => ⟨RowAt.stable ?_ ?_ v W W' h.1 hS, h.2⟩
    · rintro k o (⟨h, _⟩ | ⟨h, _⟩)
      · exact (q1 k h).2.2
      · exact (q2 k h).2.2
    · rintro k o hk (⟨h, _⟩ | ⟨_, h⟩)
      · exact absurd hk (n12 k h)
      · exact h
  · intro W hS b c hx
    obtain ⟨v', W', r1, r2, r3, _⟩ := s1 (fun k o => g1 = some k ∧ o = o1 ∨ g2 = some k ∧ o = o2) (fun k hk o => ⟨fun h => h.elim id (fun h => absurd (q2 k h.1).1 (p12 k hk)), fun h => .inl h⟩) W hS b c hx
    exact ⟨v', W', r1, r2, r3⟩
  · intro W v1 hS hv1 b c hx
    obtain ⟨v', W', r1, r2, r3, r4⟩ := s2 (fun k o => g1 = some k ∧ o = o1 ∨ g2 = some k ∧ o = o2) (fun k hk o => ⟨fun h => h.elim (fun h => absurd hk (p12 k (q1 k h.1).1)) id, fun h => .inr h⟩) W hS b c hx
    refine ⟨v', W', r1, ⟨r2, fun k hk hk' => ?_⟩, r3⟩
    have hlt := (hv1.1.lt k hk).2
    rcases r4 with ⟨r5, r6⟩ | r6
    · rw [hk'] at r6
      have e2 := q2 k r6.symm
      rcases hv1.2 with ⟨k1, e3, e4, _⟩ | ⟨k1, e4, e5⟩
      · rw [hk] at e4; cases e4
        exact n12 k e3 r6.symm
      · rw [hk] at e4; cases e4
        omega
    · rw [hk'] at r6; cases r6
      omega
  · intro W v1 v2 hS hv1 hv2
    have old : ∀ p ∈ ps, ∀ k, p.1.ownBlock = some k → k < W0.heap.size ∧ W.heap[k]? = W0.heap[k]? := by
      intro p hp k hk
      have hlt := ((hO p (by simp [hp])).lt k hk).2
      refine ⟨hlt, (hS.block k hlt).elim id ?_⟩
      rintro ⟨o, ⟨h, _⟩ | ⟨h, _⟩, _⟩
      · exact absurd hk (p1 p hp k (q1 k h).1)
      · exact absurd hk (p2 p hp k (q2 k h).1)
    refine ⟨fun p hp => ?_, ?_⟩
    · simp only [List.mem_cons] at hp
      rcases hp with rfl | rfl | hp
      · unfold OwnI; simpa using hv1.1
      · unfold OwnI; simpa using hv2.1.1
      · exact ownsRow_block (hO p (by simp [hp])) (fun k hk => (old p hp k hk).2)
    · simp only [List.pairwise_cons, List.mem_cons, forall_eq_or_imp]
      refine ⟨⟨hv2.2, fun p hp k hk hk' => ?_⟩, fun p hp k hk hk' => ?_, pp⟩
      · rcases hv1.2 with ⟨k1, e3, e4, _⟩ | ⟨k1, e4, e5⟩
        · rw [hk] at e4; cases e4
          exact p1 p hp k (q1 k e3).1 hk'
        · rw [hk] at e4; cases e4
          have := (old p hp k hk').1
          omega
      · rcases hv2.1.2 with ⟨k1, e3, e4, _⟩ | ⟨k1, e4, e5⟩
        · rw [hk] at e4; cases e4
          exact p2 p hp k (q2 k e3).1 hk'
        · rw [hk] at e4; cases e4
          have := (old p hp k hk').1
          omega
theorem NewS.grw {T : Nat → Obj → Prop} {B n c : Nat} {cs : Array Value} (hT : ∀ k o, T k o → k < B) : RelL.Stable (Grw T) (fun _ => Rel.NewS B n c cs) := by
  rintro _ v W W' ⟨g, h1, h2, h3⟩ hS
  exact ⟨g, h1, h2, h3.of_block ((hS.block g h3.lt).elim id (fun ⟨o, e1, _⟩ => by have := hT g o e1; omega))⟩
namespace RelL
open Rel (ons)
variable {T : Nat → Obj → Prop} {P : Program} {LT : Nat → Nat → Bool} {DS : List Tmp} {w0 : World} {a0 : Act} {U : Ctx → Prop} {Γ : Ctx} {o : Oper} {rest : List Oper}
theorem build3 (hT : ∀ k o, T k o → k < w0.heap.size) (t : TypeId) (n c : Nat) (cs : Array Value) (hg : GOK3 Γ o)
    (h : ∀ (a : Act) (W : World) (x : Nat → Value), Grw T w0 W → deps x Γ a W (ons o) → (∀ t, t ∉ DS → a.eval (.tmp t) = a0.eval (.tmp t)) → (execOp a.eval o).run P W = .ok (.value (.slice (some ⟨W.heap.size, 0, none⟩) n c)) (W.alloc (.cells cs t)))
    (hn : walk3 (Grw T) P LT DS w0 a0 U (Γ ++ [(o.dst, fun _ => Rel.NewS w0.heap.size n c cs)]) rest) : walk3 (Grw T) P LT DS w0 a0 U Γ (o :: rest) :=
  opW3 _ (NewS.grw hT) loc_const hg (fun a W x hb hd hbase => ⟨_, _, h a W x hb hd hbase, ⟨_, rfl, hb.size, Calm.Blk.new W t cs⟩, Grw.of ((Below.refl _ _).alloc (Nat.le_refl _) _)⟩) hn
end RelL
end Go.Proofs.YtdeapbihbhoefaaGreatDoor

/- Contract of (Guard).run: the outputs for a signal, and the indices of the gains. -/
namespace Go.Proofs.YtdeapbihbhoefaaGreatDoor
open Go.RowKit
open Calm (bcell Blk)

/-- the state at rest, and those of a run. -/
def stAt (lk ht rc : Int) (ts gs xs : List Int) : Nat → St
  | 0 => ⟨0, gs.length - 1, List.replicate (ts.length - 1) 0⟩
  | k + 1 => stF lk ht rc ts gs (stAt lk ht rc ts gs xs k) (xs.getD k 0)
def outAt (lk ht rc : Int) (ts gs xs : List Int) (k : Nat) : Int := outF lk ht rc ts gs (stAt lk ht rc ts gs xs k) (xs.getD k 0)
def lvAt (lk ht rc : Int) (ts gs xs : List Int) (k : Nat) : Nat := lvF lk ht rc ts gs (stAt lk ht rc ts gs xs k) (xs.getD k 0)
/-- the outputs, and the indices, as far as k. -/
def outsK (lk ht rc : Int) (ts gs xs : List Int) (k : Nat) : List Int := (List.range k).map fun i => outAt lk ht rc ts gs xs i
def lvsK (lk ht rc : Int) (ts gs xs : List Int) (k : Nat) : List Int := (List.range k).map fun i => ((lvAt lk ht rc ts gs xs i : Nat) : Int)
theorem outsK_succ (lk ht rc : Int) (ts gs xs : List Int) (k : Nat) : outsK lk ht rc ts gs xs (k + 1) = outsK lk ht rc ts gs xs k ++ [outAt lk ht rc ts gs xs k] := by simp [outsK, List.range_succ]
theorem lvsK_succ (lk ht rc : Int) (ts gs xs : List Int) (k : Nat) : lvsK lk ht rc ts gs xs (k + 1) = lvsK lk ht rc ts gs xs k ++ [((lvAt lk ht rc ts gs xs k : Nat) : Int)] := by simp [lvsK, List.range_succ]
theorem outsK_len (lk ht rc : Int) (ts gs xs : List Int) (k : Nat) : (outsK lk ht rc ts gs xs k).length = k := by simp [outsK]
theorem lvsK_len (lk ht rc : Int) (ts gs xs : List Int) (k : Nat) : (lvsK lk ht rc ts gs xs k).length = k := by simp [lvsK]
theorem rest_good {lk ht rc : Int} {ts gs : List Int} (hV : Valid lk ht rc ts gs) : Good ht rc ts gs ⟨0, gs.length - 1, List.replicate (ts.length - 1) 0⟩ := by
  obtain ⟨h1, h2⟩ := hV.tl
  obtain ⟨h3, h4⟩ := hV.gl
  refine ⟨⟨Int.le_refl _, hV.ht.1⟩, by show _ < _; simp only []; omega, by simp only [List.length_replicate]; omega, fun x hx => ?_, ?_⟩
  · have := List.eq_of_mem_replicate hx
    omega
  · refine farAny_false.2 fun x hx => ?_
    simp only [tailsF, tailsL, List.mem_map, List.mem_range] at hx
    obtain ⟨k, hk, rfl⟩ := hx
    have : exF ts (psK (List.replicate (ts.length - 1) 0) k) 0 = 0 := by
      unfold exF
      refine exK_zero fun i hi => ?_
      rw [psK_getD]
      split
      · split
        · rfl
        · exact getD_zeros _ _
      · rfl
    rw [this, absI_zero]; exact hV.rc.1
theorem good_at {lk ht rc : Int} {ts gs xs : List Int} (hV : Valid lk ht rc ts gs) (hx : inB 2048 xs) : ∀ k, Good ht rc ts gs (stAt lk ht rc ts gs xs k)
  | 0 => rest_good hV
  | k + 1 => (step_good hV (good_at hV hx k) (inB_get hx (by omega) k)).1

theorem own_slice {w : World} {base e size n : Nat} {v : Value} {xs : List Value} (h : w.ownsRow base e size v n xs) : ∃ a c, v = .slice a n c := by
  rcases h.2 with ⟨h1, h2⟩ | ⟨g, cap, cur, h1, _⟩
  · exact ⟨none, 0, by rw [h1, h2]⟩
  · exact ⟨_, cap, h1⟩
theorem Grw.same {T : Nat → Obj → Prop} {W W' : World} (h : Grw T W W') {k : Nat} (hk : k < W.heap.size) (hn : ∀ o, ¬ T k o) : W'.heap[k]? = W.heap[k]? :=
  (h.block k hk).elim id (fun ⟨o, e, _⟩ => absurd e (hn o))

theorem Rows.nil2 (W : World) (base : Nat) : Rows W base [(.slice Option.none 0 0, []), (.slice Option.none 0 0, [])] := by
  refine ⟨fun p hp => ?_, ?_⟩
  · have hp' : p = (.slice Option.none 0 0, []) := by simpa using hp
    subst hp'
    exact World.ownsRow_nil _ _ _ _
  · simp only [List.pairwise_cons, List.mem_cons, List.not_mem_nil, or_false, forall_eq, List.Pairwise.nil, and_true, false_implies, implies_true]
    exact fun k hk => by cases hk
set_option maxHeartbeats 4000000 in
set_option maxRecDepth 100000 in
theorem run_any (lk ht rc : Int) (ts gs xs : List Int) (A1 A2 A3 : Option Addr) (c1 c2 c3 : Nat) (w : World) (hL : Lim w) (hV : Valid lk ht rc ts gs) (hT : Cells w A1 ts) (hG : Cells w A2 gs) (hX : Cells w A3 xs) (hx : inB 2048 xs) (hn : xs.length ≤ 5000) :
    Calls Tryz.prog 58 #[.agg #[(.int .i64 lk), (.int .i64 ht), .slice A1 ts.length c1, (.int .i64 rc), .slice A2 gs.length c2], .slice A3 xs.length c3] w fun r w' => (∃ B1 d1 B2 d2, r = .returned (.tuple #[.slice B1 xs.length d1, .slice B2 xs.length d2]) ∧ Cells w' B1 (outsK lk ht rc ts gs xs xs.length) ∧ Cells w' B2 (lvsK lk ht rc ts gs xs xs.length)) ∧ Below w.heap.size w w' := by
  obtain ⟨M, hM⟩ : ∃ M, M = ts.length := ⟨_, rfl⟩
  obtain ⟨L, hLL⟩ : ∃ L, L = gs.length := ⟨_, rfl⟩
  obtain ⟨N, hN⟩ : ∃ N, N = xs.length := ⟨_, rfl⟩
  obtain ⟨Q, hQ⟩ : ∃ Q, Q = ts.length - 1 := ⟨_, rfl⟩
  have HGD := Lib.hid (good_at hV hx)
  have HRS : Hid (∀ W, Calls Tryz.prog 55 #[.agg #[(.int .i64 lk), (.int .i64 ht), .slice A1 M c1, (.int .i64 rc), .slice A2 L c2]] W fun r w' => (∃ B, W.heap.size ≤ B.block ∧ r = .returned (.agg #[(.int .i64 ((stAt lk ht rc ts gs xs 0).h)), (.int .i64 (((stAt lk ht rc ts gs xs 0).lv : Int))), .slice (some B) Q Q]) ∧ Cells w' (some B) (stAt lk ht rc ts gs xs 0).ps) ∧ Below W.heap.size W w') := Lib.hid (fun W => by
    have h1 := hV.tl
    have h2 := hV.gl
    rw [hM, hLL, hQ]
    exact rest_any lk ht rc A1 A2 ts.length c1 gs.length c2 W (by omega) (by omega))
  have HST : Hid (∀ (W : World) (k : Nat) (A : Option Addr) (c : Nat), Lim W → Cells W A1 ts → Cells W A2 gs → Cells W A (stAt lk ht rc ts gs xs k).ps → Calls Tryz.prog 56 #[.agg #[(.int .i64 lk), (.int .i64 ht), .slice A1 M c1, (.int .i64 rc), .slice A2 L c2], .agg #[(.int .i64 ((stAt lk ht rc ts gs xs k).h)), (.int .i64 (((stAt lk ht rc ts gs xs k).lv : Int))), .slice A Q c], (.int .i64 (xs.getD k 0))] W fun r w' =>
      (∃ B, W.heap.size ≤ B.block ∧ r = .returned (.tuple #[(.int .i64 (outAt lk ht rc ts gs xs k)), .agg #[(.int .i64 ((stAt lk ht rc ts gs xs (k + 1)).h)), (.int .i64 (((stAt lk ht rc ts gs xs (k + 1)).lv : Int))), .slice (some B) Q Q]]) ∧ Cells w' (some B) (stAt lk ht rc ts gs xs (k + 1)).ps) ∧ Below W.heap.size W w') := Lib.hid (fun W k A c q1 q2 q3 q4 => by
    have hg := HGD.out k
    have e : Q = (stAt lk ht rc ts gs xs k).ps.length := by have := hg.pl; omega
    have h1 := hV.tl
    have h2 := hV.gl
    have h3 := hg.h
    have h4 := hV.ht
    rw [hM, hLL, e]
    exact step_any lk ht rc (stAt lk ht rc ts gs xs k).h (xs.getD k 0) (stAt lk ht rc ts gs xs k).lv ts (stAt lk ht rc ts gs xs k).ps gs A1 A2 A c1 c2 c W _ q1 hV.lk (by omega) q2 q3 q4 hg.pl (by have := hg.pl; omega) (by omega) (by omega) hg.lv hV.tb hg.pb hV.gb (inB_get hx (by omega) k) (lvF_some hV hg _))
  have HT := Lib.hid hT
  have HG := Lib.hid hG
  have HX := Lib.hid hX
  have HL := Lib.hid hL
  have HQ : Hid (∀ k, (stAt lk ht rc ts gs xs k).ps.length = Q) := Lib.hid (fun k => by have := (HGD.out k).pl; omega)
  have HN := Lib.hid hN
  rw [← hM, ← hLL, ← hN]
  rw [← hN] at hn
  clear hM hLL hN hQ hT hG hX hL hV hx
  go_enter Tryz.func58, Tryz.ntmps58
  go_wp2_with (go_at_call 55; refine (HRS.out _).mono ?_; rintro r w1 ⟨⟨B, hBb, rfl, hC1⟩, hb1⟩; refine Hid.out ?_)
  have HB1 := Lib.hid hb1
  have HC1 := Lib.hid hC1
  have K0 : Blk w1 w.heap.size #[(.int .i64 lk), (.int .i64 ht), .slice A1 M c1, (.int .i64 rc), .slice A2 L c2] := Blk.below (by (repeat (first | ((with_reducible refine Blk.at_ ?_); focus (first | rfl | (simp; done) | (simp; omega))) | (with_reducible refine Blk.alloc ?_ _) | (with_reducible refine Blk.below ?_ (by with_reducible assumption)) | (with_reducible refine Blk.drew ?_)))) hb1
  have hs1 := hb1.size
  simp only [World.size_alloc] at hs1
  have HB1' : Hid (Below w.heap.size w w1) := Lib.hid (Below.trans (by (repeat (first | (with_reducible exact Below.refl _ _) | ((with_reducible refine Below.setCell ?_ ?_ _); rotate_left 1; focus (first | (simp; done) | (simp; omega) | (simp at *; omega))) | ((with_reducible refine Below.alloc ?_ ?_ _); rotate_left 1; focus (first | (simp; done) | (simp; omega) | (simp at *; omega))) | (with_reducible refine Below.drew ?_) | ((with_reducible refine Calm.step (by assumption) ?_ ?_); rotate_left 1; focus (first | (simp; done) | (simp; omega) | (simp at *; omega)))))) (hb1.mono (by simp)))
  have HK0 := Lib.hid K0
  clear hb1 hC1 K0 HB1
  unfold Hid
  go_wp2
  go_loopw [6, 7, 17] (fun v1 v2 i wr => ∃ (k : Nat) (A : Option Addr) (c : Nat), k ≤ N ∧ i = (.int .i64 ((k : Int))) ∧ Rows wr (w1.heap.size + 1) [(v1, outsK lk ht rc ts gs xs k), (v2, lvsK lk ht rc ts gs xs k)] ∧ Blk wr w.heap.size #[(.int .i64 lk), (.int .i64 ht), .slice A1 M c1, (.int .i64 rc), .slice A2 L c2] ∧
      Blk wr w1.heap.size #[(.int .i64 ((stAt lk ht rc ts gs xs k).h)), (.int .i64 (((stAt lk ht rc ts gs xs k).lv : Int))), .slice A Q c] ∧ Cells wr A (stAt lk ht rc ts gs xs k).ps ∧ (0 < Q → ∀ p, A = some p → p.block ≠ w1.heap.size) ∧ Below w.heap.size w wr) (fun _ _ i _ => N - (intOf i).toNat)
  case atStart =>
    exact ⟨0, some B, Q, Nat.zero_le _, rfl, Rows.nil2 _ _, HK0.out.alloc _, Blk.new _ _ _, HC1.out.below ((Below.refl _ _).alloc (Nat.le_refl _) _), fun h0 p hp => by
      obtain ⟨b, off, hA, hl, _⟩ := HC1.out (by rw [HQ.out]; exact h0)
      cases hp; cases hA
      show b ≠ _
      omega, HB1'.out.alloc (by omega) _⟩
  case round =>
    clear HK0
    obtain ⟨k, A, c, hk, rfl, hR, K0, K8, hCA, hAne, hB⟩ := hrel
    have HR := Lib.hid hR
    have HCA := Lib.hid hCA
    have HB := Lib.hid hB
    have hsz := hB.size
    clear hR hCA
    by_cases hlt : k < N
    · obtain ⟨b3, o3, rfl, l3, k3⟩ := HX.out (by rw [← HN.out]; omega)
      have x3 := (hB.cell (p := ⟨b3, o3 + k, none⟩) l3).trans (k3 k (by rw [← HN.out]; exact hlt))
      have HLr := Lib.hid (HL.out.below hB)
      have HTr := Lib.hid (HT.out.below hB)
      have HGr := Lib.hid (HG.out.below hB)
      have HS1 := HST.out wr k A c HLr.out HTr.out HGr.out HCA.out
      have HO := Lib.hid (outsK_succ lk ht rc ts gs xs k)
      have HLV := Lib.hid (lvsK_succ lk ht rc ts gs xs k)
      have hrow : ∀ j, (u6.ownBlock = some j ∨ u7.ownBlock = some j) → j < wr.heap.size := fun j hj => by
        rcases hj with hj | hj
        · exact ((HR.out.1 (u6, outsK lk ht rc ts gs xs k) (by simp)).lt j hj).2
        · exact ((HR.out.1 (u7, lvsK lk ht rc ts gs xs k) (by simp)).lt j hj).2
      have hlv : (stAt lk ht rc ts gs xs (k + 1)).lv = lvAt lk ht rc ts gs xs k := rfl
      rw [hlv] at HS1
      obtain ⟨X, hX⟩ : ∃ X, X = xs.getD k 0 := ⟨_, rfl⟩
      obtain ⟨Y, hY⟩ : ∃ Y, Y = outAt lk ht rc ts gs xs k := ⟨_, rfl⟩
      obtain ⟨V, hV⟩ : ∃ V, V = lvAt lk ht rc ts gs xs k := ⟨_, rfl⟩
      rw [← hX, ← hY, ← hV] at HS1
      rw [← hX] at x3
      have HY := Lib.hid hY
      have HV := Lib.hid hV
      have HLVE := Lib.hid hlv
      have HSS := Lib.hid HS1
      obtain ⟨c00, c01, c02, c03, c04, l0, f0⟩ := K0.o5
      obtain ⟨c10, c11, c12, l10, f1⟩ := K8.o3
      have hw1r : w1.heap.size < wr.heap.size := l10
      have HK0 := Lib.hid K0
      have HK8 := Lib.hid K8
      have HROW := Lib.hid hrow
      have HANE := Lib.hid hAne
      clear k3 hX hY hV hlv HS1 K0 K8 hB hrow hAne
      go_wp2_with (go_at_call 56; refine HSS.out.mono ?_; rintro r w2 ⟨⟨B2, hBb2, rfl, hC2⟩, hb2⟩; have hs2 := hb2.size; have HC2 := Lib.hid hC2; have HB2 := Lib.hid hb2; clear hC2 hb2)
      refine name_world ?_
      intro w4 e4
      have hN4 : w2.heap.size < w4.heap.size := by rw [e4]; simp
      have hb4 : Below w2.heap.size w2 w4 := by rw [e4]; exact (Below.refl _ _).alloc (Nat.le_refl _) _
      have hR4 := (HR.out.below HB2.out).below hb4
      have KN : Blk w4 w2.heap.size #[(.int .i64 ((stAt lk ht rc ts gs xs (k + 1)).h)), (.int .i64 ((V : Int))), .slice (some B2) Q Q] := by rw [e4]; exact Blk.new _ _ _
      have HK04 := Lib.hid ((HK0.out.below HB2.out).below hb4)
      have HK84 := Lib.hid ((HK8.out.below HB2.out).below hb4)
      have HC4 := Lib.hid (HC2.out.below hb4)
      have HCL : Hid (0 < Q → B2.block < w4.heap.size) := Lib.hid (fun h0 => by
        obtain ⟨b, off, hA, hl, _⟩ := HC4.out (by rw [HQ.out]; exact h0)
        cases hA; exact hl)
      have HBA4 := Lib.hid (HB.out.trans ((HB2.out.trans (hb4.mono hs2)).mono hsz))
      have hsb : w1.heap.size + 1 ≤ w4.heap.size := by omega
      obtain ⟨T, R1, R2, t0, t1, t2, p1, p2, pf⟩ := pair_grw (w1.heap.size + 1) u6 u7 _ _ [] Y (V : Int) w4 hR4 hsb (by rw [outsK_len]; omega) (by rw [lvsK_len]; omega)
      have T0 := Lib.hid t0
      have T1 := Lib.hid t1
      have T2 := Lib.hid t2
      have P1 := Lib.hid p1
      have P2 := Lib.hid p2
      have PF := Lib.hid pf
      clear t0 t1 t2 p1 p2 pf hR4
      have hnT : ∀ j, wr.heap.size ≤ j → ∀ o, ¬ T j o := fun j hj o ho => by
        have := HROW.out j (T0.out j o ho).2
        omega
      have HNT := Lib.hid hnT
      have hTC : Hid (∀ W, Grw T w4 W → (∀ o, W.cell? ⟨w2.heap.size, o, none⟩ = w4.cell? ⟨w2.heap.size, o, none⟩) ∧ True) := Lib.hid (fun W hS => ⟨fun o => World.cell?_of_block (w := w4) (a := ⟨w2.heap.size, o, none⟩) (hS.same hN4 (hnT _ hs2)), trivial⟩)
      obtain ⟨n0, n1, n2, nl, nf⟩ := KN.o3
      clear e4 hb4 KN hnT HK0 HK8 HC2 HB2 HB HR HSS c00 c01 c02 c03 c04 l0 f0 c10 c11 c12 l10 f1 x3
      refine RelL.region3 (S := Grw T) Grw.trans Grw.drawn 12 (by kernel_rfl) (by kernel_rfl) (by kernel_rfl) ?_
      simp only [List.take_succ_cons, List.take_zero, List.drop_succ_cons, List.drop_zero, List.filterMap_cons, List.filterMap_nil]
      refine RelL.late3 Grw.refl 6 u6 rfl (by kernel_rfl) rfl (RelL.gno rfl) ?_
      (try simp only [List.nil_append, List.cons_append])
      iterate 1 (apply RelL.op3 Grw.refl; (focus (first | exact RelL.gno rfl | exact RelL.gyes _ true _ rfl rfl rfl | exact RelL.gyes _ false _ rfl rfl rfl)); (focus (intro a W x hb hd hbase; obtain ⟨hc, hf⟩ := hTC.out W hb; clear hb hf; simp [RelL.deps, RelL.dep1, Rel.ons, Region.binds, Act.eval] at hd; simp only [Act.eval, List.mem_cons, List.not_mem_nil, not_or, and_imp, or_false, Array.getD_eq_getD_getElem?] at hbase; go_simp; (try go_bits); (try rfl); done)); (try simp only [List.nil_append, List.cons_append]))
      (apply RelL.build3 (fun k o h => (T0.out k o h).1.2); (focus (first | exact RelL.gno rfl | exact RelL.gyes _ true _ rfl rfl rfl | exact RelL.gyes _ false _ rfl rfl rfl)); (focus (intro a W x hb hd hbase; obtain ⟨hc, hf⟩ := hTC.out W hb; clear hb hf; simp [RelL.deps, RelL.dep1, Rel.ons, Region.binds, Act.eval] at hd; simp only [Act.eval, List.mem_cons, List.not_mem_nil, not_or, and_imp, or_false, Array.getD_eq_getD_getElem?] at hbase; go_simp; (first | rfl | (refine ⟨⟨?_, ?_⟩, ?_⟩; rfl; rfl; rfl) | (refine ⟨?_, ?_⟩; rfl; rfl)))); (try simp only [List.nil_append, List.cons_append]))
      refine RelL.app3 (fun _ => R1) (fun _ => T1.out) RelL.loc_const (.tmp 28) (.tmp 30) 22 rfl (RelL.gno rfl) ?_ ?_
      · intro a W x hb hd hbase
        simp [RelL.deps, RelL.dep1, Rel.ons, Region.binds] at hd
        obtain ⟨⟨_, hs⟩, ⟨_, hx⟩⟩ := hd
        obtain ⟨g, hxv, _, hxk⟩ := hx
        rw [hs, hxv]
        exact P1.out W hb g 1 (hxk.cell 0 _ rfl)
      (try simp only [List.nil_append, List.cons_append])
      refine RelL.late3 Grw.refl 7 u7 rfl (by kernel_rfl) rfl (RelL.gno rfl) ?_
      (try simp only [List.nil_append, List.cons_append])
      iterate 2 (apply RelL.op3 Grw.refl; (focus (first | exact RelL.gno rfl | exact RelL.gyes _ true _ rfl rfl rfl | exact RelL.gyes _ false _ rfl rfl rfl)); (focus (intro a W x hb hd hbase; obtain ⟨hc, hf⟩ := hTC.out W hb; clear hb hf; simp [RelL.deps, RelL.dep1, Rel.ons, Region.binds, Act.eval] at hd; simp only [Act.eval, List.mem_cons, List.not_mem_nil, not_or, and_imp, or_false, Array.getD_eq_getD_getElem?] at hbase; go_simp; (try go_bits); (try rfl); done)); (try simp only [List.nil_append, List.cons_append]))
      (apply RelL.build3 (fun k o h => (T0.out k o h).1.2); (focus (first | exact RelL.gno rfl | exact RelL.gyes _ true _ rfl rfl rfl | exact RelL.gyes _ false _ rfl rfl rfl)); (focus (intro a W x hb hd hbase; obtain ⟨hc, hf⟩ := hTC.out W hb; clear hb hf; simp [RelL.deps, RelL.dep1, Rel.ons, Region.binds, Act.eval] at hd; simp only [Act.eval, List.mem_cons, List.not_mem_nil, not_or, and_imp, or_false, Array.getD_eq_getD_getElem?] at hbase; go_simp; (first | rfl | (refine ⟨⟨?_, ?_⟩, ?_⟩; rfl; rfl; rfl) | (refine ⟨?_, ?_⟩; rfl; rfl)))); (try simp only [List.nil_append, List.cons_append]))
      refine RelL.app3 (fun x => R2 (x 3)) (fun x => T2.out (x 3)) (fun x y h v W hr => by have e8 : x 3 = y 3 := h { on := 3, ground := .chain } (by simp) rfl; exact (show R2 (y 3) v W from e8 ▸ (show R2 (x 3) v W from hr))) (.tmp 32) (.tmp 35) 22 rfl (RelL.gno rfl) ?_ ?_
      · intro a W x hb hd hbase
        simp [RelL.deps, RelL.dep1, Rel.ons, Region.binds] at hd
        obtain ⟨⟨_, hs⟩, ⟨_, hx⟩, h8, hv1⟩ := hd
        obtain ⟨g, hxv, _, hxk⟩ := hx
        rw [hs, hxv, h8]
        exact P2.out W _ hb hv1 g 1 (hxk.cell 0 _ rfl)
      (try simp only [List.nil_append, List.cons_append])
      iterate 1 (apply RelL.op3 Grw.refl; (focus (first | exact RelL.gno rfl | exact RelL.gyes _ true _ rfl rfl rfl | exact RelL.gyes _ false _ rfl rfl rfl)); (focus (intro a W x hb hd hbase; obtain ⟨hc, hf⟩ := hTC.out W hb; clear hb hf; simp [RelL.deps, RelL.dep1, Rel.ons, Region.binds, Act.eval] at hd; simp only [Act.eval, List.mem_cons, List.not_mem_nil, not_or, and_imp, or_false, Array.getD_eq_getD_getElem?] at hbase; go_simp; (try go_bits); (try rfl); done)); (try simp only [List.nil_append, List.cons_append]))
      refine RelL.opW3 (fun x u _ => u = x 3) (fun _ _ _ _ h _ => h) (fun x y h v W hr => hr.trans (h { on := 3, ground := .data } (by simp) rfl)) (RelL.gno rfl) ?_ ?_
      · intro a W x hb hd hbase
        simp [RelL.deps, RelL.dep1, Rel.ons, Region.binds, Act.eval] at hd
        refine ⟨x 3, W, ?_, rfl, Grw.refl W⟩
        obtain ⟨⟨h3, _⟩, _⟩ := hd
        unfold execOp
        simp [Act.eval, h3]
      (try simp only [List.nil_append, List.cons_append])
      refine RelL.opW3 (fun x u _ => u = x 8) (fun _ _ _ _ h _ => h) (fun x y h v W hr => hr.trans (h { on := 8, ground := .data } (by simp) rfl)) (RelL.gno rfl) ?_ ?_
      · intro a W x hb hd hbase
        simp [RelL.deps, RelL.dep1, Rel.ons, Region.binds, Act.eval] at hd
        refine ⟨x 8, W, ?_, rfl, Grw.refl W⟩
        obtain ⟨⟨h3, _⟩, _⟩ := hd
        unfold execOp
        simp [Act.eval, h3]
      (try simp only [List.nil_append, List.cons_append])
      refine RelL.done3 ?_
      intro x WR hRR hx
      simp only [RelL.facts, Nat.zero_add, Nat.reduceAdd] at hx
      obtain ⟨e0, e1, e2, r1, e4, e5, e6, e7, r2, e9, e10, e11, _⟩ := hx
      simp only [RelL.fill, Nat.zero_add, Nat.reduceAdd, e0, e1, e4, e5, e6, e9, e10, e11]
      simp only [Act.put, List.setIfInBounds_toArray, List.set_cons_zero, List.set_cons_succ]
      have hbR : Below (w1.heap.size + 1) w4 WR := hRR.below (fun k o hk => (T0.out k o hk).1.1) hsb
      have hRN := Lib.hid (PF.out WR _ _ hRR r1 r2)
      have K8 := HK84.out.upto hbR (by omega)
      have K0 := HK04.out.upto hbR (by omega)
      have HBAR : Hid (Below w.heap.size w WR) := Lib.hid (HBA4.out.trans (hbR.mono (by omega)))
      have HCR : Hid (Cells WR (some B2) (stAt lk ht rc ts gs xs (k + 1)).ps) := Lib.hid (by
        intro h0
        have hl := HCL.out (by rw [← HQ.out (k + 1)]; exact h0)
        obtain ⟨b, off, hA, _, hc⟩ := HC4.out h0
        cases hA
        have e := hRR.same hl (HNT.out _ hBb2)
        exact ⟨b, off, rfl, Nat.lt_of_lt_of_le hl hRR.size, fun j hj => (World.cell?_of_block (w := w4) (a := ⟨b, off + j, none⟩) e).trans (hc j hj)⟩)
      clear e0 e1 e2 r1 e4 e5 e6 e7 r2 e9 e10 e11 hRR hbR T0 T1 T2 P1 P2 PF HNT hTC n0 n1 n2 nl nf HK84 HK04 HBA4 HC4 HCL HROW
      obtain ⟨v1, hv1⟩ : ∃ v, v = x 3 := ⟨_, rfl⟩
      obtain ⟨v2, hv2⟩ : ∃ v, v = x 8 := ⟨_, rfl⟩
      rw [← hv1, ← hv2] at hRN
      simp only [← hv1, ← hv2]
      clear hv1 hv2
      obtain ⟨d10, d11, d12, m1, g1⟩ := K8.o3
      have HK8 := Lib.hid K8
      have HK0 := Lib.hid K0
      clear K8 K0
      go_wp2
      go_roundw
      case rel =>
        have q1 : 0 < (stAt lk ht rc ts gs xs (k + 1)).ps.length → ∀ p, some B2 = some p → p.block ≠ w1.heap.size := fun _ p hp => by cases hp; omega
        exact ⟨k + 1, some B2, Q, by omega, by go_num, by rw [HO.out, HLV.out, ← HY.out, ← HV.out]; exact ((hRN.out.setCell (by simp) _).setCell (by simp) _).setCell (by simp) _,
          ((HK0.out.far (by simp; omega) _).far (by simp; omega) _).far (by simp; omega) _, by rw [HLVE.out, ← HV.out]; exact HK8.out.set3 _ _ _, ((HCR.out.sets q1 _ _).sets q1 _ _).sets q1 _ _, fun _ p hp => by cases hp; omega,
          ((HBAR.out.setCell (by simp; omega) _).setCell (by simp; omega) _).setCell (by simp; omega) _⟩
      case measure => simp [intOf]; omega
    · obtain rfl : k = N := by omega
      have hr1 := HR.out.1 (u6, outsK lk ht rc ts gs xs k) (by simp)
      have hr2 := HR.out.1 (u7, lvsK lk ht rc ts gs xs k) (by simp)
      unfold OwnI at hr1 hr2
      rw [outsK_len] at hr1
      rw [lvsK_len] at hr2
      obtain ⟨B1, d1, rfl, _, hc1⟩ := own_ints hr1 (outsK_len _ _ _ _ _ _ _).symm
      obtain ⟨B2, d2, rfl, _, hc2⟩ := own_ints hr2 (lvsK_len _ _ _ _ _ _ _).symm
      have H1 := Lib.hid hc1
      have H2 := Lib.hid hc2
      clear hr1 hr2 hc1 hc2 hB K0 K8
      go_wp2
      exact bodyPost_ret (v := .tuple #[.slice B1 k d1, .slice B2 k d2]) (by simp [results, Tryz.results58, go_sem]) rfl (by first | exact ⟨⟨B1, d1, B2, ⟨d2, rfl⟩, H1.out, H2.out⟩, HB.out⟩ | exact ⟨⟨B1, d1, B2, d2, rfl, H1.out, H2.out⟩, HB.out⟩)
end Go.Proofs.YtdeapbihbhoefaaGreatDoor
