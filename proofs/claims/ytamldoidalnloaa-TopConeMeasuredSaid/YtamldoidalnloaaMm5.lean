/- Part 5 of the texts of the claim: RelH, Sett, X3, X4, S2, S3, S4. -/
import Derived.Test.YtamldoidalnloaaMm4
import Derived.Test.YtamldoidalnloaaMm2

/- Regions whose order is open, the world turning along any relation S, where what is known of a value may name the values that its operation waited for (RelG with one limb more). No program. -/
namespace Go.Proofs.Ytamldoidalnloaa.RelH
open Go.RowKit
open Rel (dst puts upd puts_agree puts_put Apart apart_of puts_new put_size puts_size puts_other eval_put_same puts_here wanted_of countP_upd left Ln okB sizeB all_listed listed_Ln some_ready ons)

/-- What is known of the value of an operation: the values of all operations, this one's, the world. -/
abbrev DK := (Nat → Value) → Value → World → Prop
/-- .. it names no value but those that the operation waited for. -/
def Loc (o : Oper) (R : DK) : Prop := ∀ x y : Nat → Value, (∀ e ∈ o.after, Region.binds .any e = true → x e.on = y e.on) → ∀ v W, R x v W → R y v W
def GOK (ops : Array Oper) (Γ : List DK) (o : Oper) : Prop :=
  o.guard = none ∨ ∃ g b t, o.guard = some (g, b) ∧ (∃ e ∈ o.after, Region.binds .any e = true ∧ e.on = g) ∧ dst ops g = some t ∧ Γ[g]? = some (fun _ u _ => u = .bool b)
theorem GOK.mono {ops : Array Oper} {Γ Δ : List DK} {o : Oper} (h : GOK ops Γ o) (hsub : ∀ (g : Nat) (K : DK), Γ[g]? = some K → Δ[g]? = some K) : GOK ops Δ o := by
  rcases h with h | ⟨g, b, t, h1, h2, h3, h4⟩
  · exact .inl h
  · exact .inr ⟨g, b, t, h1, h2, h3, hsub _ _ h4⟩

/-- .. and stays known along S. -/
def Stable (S : World → World → Prop) (R : DK) : Prop := ∀ x v W W', R x v W → S W W' → R x v W'

section
variable {P : Program} {ops : Array Oper} {S : World → World → Prop}

/-- What an operation of the head must show: wherever it comes up. -/
def Ob (S : World → World → Prop) (P : Program) (ops : Array Oper) (n : Nat) (w0 : World) (a0 : Act) (Γ : List DK) (o : Oper) (R : DK) : Prop :=
  ∀ (a : Act) (W : World) (x : Nat → Value), S w0 W → a.tmps.size = a0.tmps.size →
    (∀ e ∈ o.after, Region.binds .any e = true → ∀ t, dst ops e.on = some t → x e.on = a.eval (.tmp t)) →
    (∀ e ∈ o.after, Region.binds .any e = true → ∀ K, Γ[e.on]? = some K → K x (x e.on) W) →
    (∀ t, (∀ j, j < n → dst ops j ≠ some t) → a.eval (.tmp t) = a0.eval (.tmp t)) →
    ∀ (K : Act → World → Prop) (Q : Exit → Act → World → Prop), (∀ v W', R x v W' → S W W' → K (a.put o.dst v) W') → o.wp P a W K Q


/-- The walk in the order of the text: at each operation something that stays known is chosen. -/
def walk (S : World → World → Prop) (P : Program) (ops : Array Oper) (n : Nat) (w0 : World) (a0 : Act) (T : List DK → Prop) : List DK → List Oper → Prop
  | Γ, [] => T Γ
  | Γ, o :: l => ∃ R, Stable S R ∧ Loc o R ∧ GOK ops Γ o ∧ (dst ops Γ.length = o.dst → Ob S P ops n w0 a0 Γ o R) ∧ walk S P ops n w0 a0 T (Γ ++ [R]) l


theorem walk_all {n : Nat} {w0 : World} {a0 : Act} {T : List DK → Prop} : ∀ (l : List Oper) (Γ : List DK), walk S P ops n w0 a0 T Γ l →
    ∃ Δ : List DK, Δ.length = l.length ∧ T (Γ ++ Δ) ∧ ∀ k o, l[k]? = some o → ∃ R, Δ[k]? = some R ∧ Stable S R ∧ Loc o R ∧ GOK ops (Γ ++ Δ.take k) o ∧ (dst ops (Γ.length + k) = o.dst → Ob S P ops n w0 a0 (Γ ++ Δ.take k) o R)
  | [], Γ, h => ⟨[], rfl, by simpa [walk] using h, fun k o hk => by simp at hk⟩
  | o :: l, Γ, h => by
    obtain ⟨R, hs, hlc, hg, hob, hw⟩ := h
    obtain ⟨Δ, hl, hT, hall⟩ := walk_all l _ hw
    refine ⟨R :: Δ, by simp [hl], by simpa using hT, fun k o' hk => ?_⟩
    cases k with
    | zero =>
      obtain rfl : o = o' := by simpa using hk
      exact ⟨R, rfl, hs, hlc, by simpa using hg, by simpa using hob⟩
    | succ k =>
      obtain ⟨R', h1, h2, h2', h3, h4⟩ := hall k o' (by simpa using hk)
      refine ⟨R', by simpa using h1, h2, h2', by simpa using h3, fun hd => ?_⟩
      have := h4 (by rw [← hd]; congr 1; simp; omega)
      simpa using this

theorem Ob.mono {n : Nat} {w0 : World} {a0 : Act} {Γ Δ : List DK} {o : Oper} {R : DK} (h : Ob S P ops n w0 a0 Γ o R) (hsub : ∀ e ∈ o.after, ∀ K, Γ[e.on]? = some K → Δ[e.on]? = some K) : Ob S P ops n w0 a0 Δ o R :=
  fun a W x hb hz hx hd hbase K Q hK => h a W x hb hz hx (fun e he hbd K' hK' => hd e he hbd K' (hsub e he K' hK')) hbase K Q hK

/-- What holds while the head is on its way. -/
structure Inv (S : World → World → Prop) (ops : Array Oper) (n : Nat) (w0 : World) (a0 : Act) (Γ : List DK) (listed : Array Bool) (a : Act) (W : World) : Prop where
  below : S w0 W
  vals : ∃ x : Nat → Value, a = puts ops x (fun j => listed.getD j false) (List.range n) a0 ∧ ∀ j, j < n → listed.getD j false = true → ∀ K, Γ[j]? = some K → K x (x j) W


theorem go (ht' : ∀ a b c, S a b → S b c → S a c) {n : Nat} {Q : Exit → Act → World → Prop} {w0 : World} {a0 : Act} {Γ : List DK} (hok : okB ops n = true) (hsz : sizeB ops n a0.tmps.size = true)
    (hΓ : ∀ k, k < n → ∃ o R, ops[k]? = some o ∧ Γ[k]? = some R ∧ Stable S R ∧ Loc o R ∧ GOK ops Γ o ∧ Ob S P ops n w0 a0 Γ o R)
    (hend : ∀ (x : Nat → Value) (W : World), S w0 W → (∀ j, j < n → ∀ K, Γ[j]? = some K → K x (x j) W) → wpAny P .any ops Q (ops.size - n) (Ln n ops.size) (puts ops x (fun _ => true) (List.range n) a0) W) :
    ∀ (f : Nat) (listed : Array Bool) (a : Act) (W : World), HeadInv .any ops n listed → left n listed = f → Inv S ops n w0 a0 Γ listed a W → wpAny P .any ops Q (f + (ops.size - n)) listed a W := by
  simp only [okB, Bool.and_eq_true, decide_eq_true_eq] at hok
  obtain ⟨⟨⟨⟨⟨hn, hs⟩, hc⟩, _⟩, hap⟩, hback⟩ := hok
  have hap := apart_of hap
  intro f
  induction f with
  | zero =>
    intro listed a W inv hl hI
    obtain ⟨hb, x, rfl, hx⟩ := hI
    have hall := all_listed hl
    rw [Nat.zero_add]
    rw [puts_agree (p' := fun _ => true) (x' := x) (List.range n) a0 (fun j hj => ⟨hall j (List.mem_range.1 hj), fun _ => rfl⟩), listed_Ln inv hl (by omega)]
    exact hend x W hb (fun j hj K hK => hx j hj (hall j hj) K hK)
  | succ f ih =>
    intro listed a W inv hl hI
    have hex : ∃ k, k < n ∧ listed.getD k true = false := by
      apply Classical.byContradiction
      intro hno
      have : left n listed = 0 := List.countP_eq_zero.2 (fun j hj => by
        have hj := List.mem_range.1 hj
        have hjs : j < listed.size := by rw [inv.size]; omega
        cases h : listed.getD j false with
        | true => simp
        | false => exact absurd ⟨j, hj, getD_in hjs h⟩ hno)
      omega
    obtain ⟨k, hk, hun⟩ := hex
    rw [show f + 1 + (ops.size - n) = (f + (ops.size - n)) + 1 by omega]
    refine ⟨fun h0 => ?_, fun i hi => ?_⟩
    · obtain ⟨i, hi⟩ := some_ready inv hback hn (k + 1) k (by omega) hk hun
      rw [h0] at hi
      cases hi
    have hin : i < n := by
      rcases Nat.lt_or_ge i n with h | h
      · exact h
      · exact absurd hi (tail_waits hs hc hn inv _ k rfl hk hun i h)
    obtain ⟨hiun, oi, hoi, hdeps⟩ := mem_ready.1 hi
    obtain ⟨o, R, ho, hR, hst, hlc, hg, hob⟩ := hΓ i hin
    obtain rfl : oi = o := Option.some.inj (hoi.symm.trans ho)
    obtain ⟨hb, x, rfl, hx⟩ := hI
    have hdi : dst ops i = oi.dst := by simp [dst, ho]
    have his : i < listed.size := by rw [inv.size]; omega
    have hif : listed.getD i false = false := getD_both hiun
    have hszt : ∀ j t, j < n → dst ops j = some t → t < a0.tmps.size := fun j t hj hd => by
      have := List.all_eq_true.1 hsz j (List.mem_range.2 hj)
      simpa [hd] using this
    have back : ∀ e ∈ oi.after, Region.binds .any e = true → e.on < i := fun e he hbd => by
      have h1 := List.all_eq_true.1 hback i (List.mem_range.2 (by omega))
      simp only [ho] at h1
      simpa [hbd] using Array.all_eq_true'.1 h1 e he
    unfold wpOp
    simp only [ho]
    have hwant : Region.wanted oi (yielded ops (puts ops x (fun j => listed.getD j false) (List.range n) a0).tmps) = true := by
      rcases hg with hg | ⟨g, b, t, hg, ⟨e, he, hbd, rfl⟩, hd, hK⟩
      · simp [Region.wanted, hg]
      · have hel := hdeps e he hbd
        have hen : e.on < n := by have := back e he hbd; omega
        have h1 := puts_here (x := x) (p := fun j => listed.getD j false) hap hen hel hd (List.range n) a0 (List.nodup_range) (List.mem_range.2 hen) (fun j hj => List.mem_range.1 hj) (hszt _ _ hen hd)
        have h2 : x e.on = .bool b := hx e.on hen hel _ hK
        have h3 : t < (puts ops x (fun j => listed.getD j false) (List.range n) a0).tmps.size := by rw [puts_size]; exact hszt _ _ hen hd
        rw [h2] at h1
        exact wanted_of hg hd h1 h3
    rw [if_pos hwant]
    refine .inl (hob _ W x hb (puts_size _ _) ?_ ?_ ?_ _ _ ?_)
    · intro e he hbd t ht
      have hel := hdeps e he hbd
      have hen : e.on < n := by have := back e he hbd; omega
      rw [puts_here hap hen hel ht (List.range n) a0 (List.nodup_range) (List.mem_range.2 hen) (fun j hj => List.mem_range.1 hj) (hszt _ _ hen ht)]
    · intro e he hbd K hK
      exact hx e.on (by have := back e he hbd; omega) (hdeps e he hbd) K hK
    · intro t ht
      exact puts_other _ _ (fun j hj => ht j (List.mem_range.1 hj))
    · intro v W' hv hb'
      have hget : ∀ j, (listed.setIfInBounds i true).getD j false = upd (fun j => listed.getD j false) i true j := by
        intro j
        by_cases hji : j = i
        · subst hji
          simp [upd, his]
        · rw [getD_set_ne false (Ne.symm hji)]
          simp [upd, hji]
      refine ih _ _ W' (inv.set hi hin) ?_ ⟨ht' _ _ _ hb hb', upd x i v, ?_, ?_⟩
      · have h1 := countP_upd (i := i) (p := fun j => !listed.getD j false) (by simp [hif]) (List.range n) List.nodup_range (List.mem_range.2 hin)
        have h2 : left n (listed.setIfInBounds i true) = (List.range n).countP (upd (fun j => !listed.getD j false) i false) := by
          unfold left
          congr 1
          funext j
          rw [hget j]
          by_cases hji : j = i <;> simp [upd, hji]
        unfold left at hl
        omega
      · rw [← hdi, puts_new hap hin hif (List.range n) a0 List.nodup_range (List.mem_range.2 hin) (fun j hj => List.mem_range.1 hj)]
        exact puts_agree _ _ (fun j _ => ⟨(hget j).symm, fun _ => rfl⟩)
      · intro j hj hlj K hK
        rw [hget j] at hlj
        by_cases hji : j = i
        · subst hji
          obtain rfl : R = K := Option.some.inj (hR.symm.trans hK)
          have h1 : R (upd x j v) v W' := hlc x (upd x j v) (fun e he hbd => by
            have := back e he hbd
            simp [upd, show e.on ≠ j by omega]) v W' hv
          simpa [upd] using h1
        · have e1 : upd x i v j = x j := by simp [upd, hji]
          have e2 : listed.getD j false = true := by simpa [upd, hji] using hlj
          rw [e1]
          obtain ⟨oj, R', hoj', hR', hst', hlc', _⟩ := hΓ j hj
          obtain rfl : R' = K := Option.some.inj (hR'.symm.trans hK)
          refine hlc' x (upd x i v) (fun e he hbd => ?_) _ _ (hst' _ _ _ _ (hx j hj e2 _ hK) hb')
          have h1 := inv.closed j oj hoj' e2 e he hbd
          have h2 : e.on ≠ i := fun h => by rw [h, hif] at h1; cases h1
          simp [upd, h2]

/-- The frame with all values of the head. -/
def fill : List Oper → Nat → (Nat → Value) → Act → Act
  | [], _, _, a => a
  | o :: l, k, x, a => fill l (k + 1) x (a.put o.dst (x k))
theorem fill_puts {x : Nat → Value} : ∀ (l : List Oper) (k : Nat) (a : Act), (∀ j, j < l.length → l[j]? = ops[k + j]?) → fill l k x a = puts ops x (fun _ => true) (List.range' k l.length) a
  | [], _, _, _ => rfl
  | o :: l, k, a, h => by
    have h0 : ops[k]? = some o := by simpa using (h 0 (by simp)).symm
    have hd : dst ops k = o.dst := by simp [dst, h0]
    simp only [fill, List.length_cons, List.range'_succ, puts, if_true, hd]
    exact fill_puts l (k + 1) _ (fun j hj => by have := h (j + 1) (by simp; omega); simpa [Nat.add_assoc, Nat.add_comm 1 j] using this)

/-- ████ The region. -/
theorem region_w (ht' : ∀ a b c, S a b → S b c → S a c) (hdr : ∀ W, S W { W with drawn := W.drawn + 1 }) {Q : Exit → Act → World → Prop} {a : Act} {w : World} {l : List Oper} (n : Nat) (hok : okB l.toArray n = true) (hsz : sizeB l.toArray n a.tmps.size = true)
    (h : walk S P l.toArray n w a (fun (Γ : List DK) => ∀ (x : Nat → Value) (W : World), S w W → (∀ (j : Nat) (K : DK), Γ[j]? = some K → K x (x j) W) → wpList P l.toArray Q (l.drop n) (fill (l.take n) 0 x a) W) [] (l.take n)) :
    wpAny P .any l.toArray Q l.toArray.size (Array.replicate l.toArray.size false) a { w with drawn := w.drawn + 1 } := by
  have hok' := hok
  simp only [okB, Bool.and_eq_true, decide_eq_true_eq] at hok'
  obtain ⟨⟨⟨⟨⟨hn, _⟩, _⟩, hseq⟩, _⟩, hback⟩ := hok'
  have hn' : n < l.length := by simpa using hn
  have htl : (l.take n).length = n := by simp; omega
  obtain ⟨Δ, hlen, hT, hall⟩ := walk_all _ _ h
  rw [List.nil_append] at hT
  rw [htl] at hlen
  have hget : ∀ k, k < n → (l.take n)[k]? = l.toArray[k]? := fun k hk => by simp [List.getElem?_take, hk]
  have hΓ : ∀ k, k < n → ∃ o R, l.toArray[k]? = some o ∧ Δ[k]? = some R ∧ Stable S R ∧ Loc o R ∧ GOK l.toArray Δ o ∧ Ob S P l.toArray n w a Δ o R := by
    intro k hk
    obtain ⟨o, ho⟩ : ∃ o, l.toArray[k]? = some o := ⟨_, Array.getElem?_eq_getElem (by simp; omega)⟩
    obtain ⟨R, h1, h2, h2', h3, h4⟩ := hall k o (by rw [hget k hk, ho])
    rw [List.nil_append] at h3
    refine ⟨o, R, ho, h1, h2, h2', h3.mono (fun g K hK => by
      rw [List.getElem?_take] at hK
      split at hK
      · exact hK
      · cases hK), (h4 (by simp only [List.length_nil, Nat.zero_add]; simp [dst, ho])).mono fun e he K hK => ?_⟩
    rw [List.nil_append] at hK
    rw [List.getElem?_take] at hK
    split at hK
    · exact hK
    · cases hK
  have inv0 : HeadInv .any l.toArray n (Array.replicate l.toArray.size false) :=
    ⟨by simp, fun j oj _ hl => (by rw [getD_replicate_false] at hl; cases hl), fun t _ ht => getD_in (by simpa using ht) (getD_replicate_false _ _)⟩
  have hleft : left n (Array.replicate l.toArray.size false) = n := by
    unfold left
    rw [List.countP_eq_length.2 (fun j _ => by rw [getD_replicate_false]; rfl), List.length_range]
  have hputs : ∀ x, puts l.toArray x (fun _ => true) (List.range n) a = fill (l.take n) 0 x a := fun x => by
    rw [fill_puts (ops := l.toArray) (l.take n) 0 a (fun j hj => by rw [htl] at hj; rw [hget j hj, Nat.zero_add]), htl, List.range_eq_range']
  have H := go ht' (P := P) (Q := Q) (w0 := w) (a0 := a) hok hsz hΓ (fun x W hb hx => by
    have hdl : (l.drop n).length = l.toArray.size - n := by simp
    have := wpAny_of_seq (md := .any) (Q' := Q) (ops := l.toArray) (P := P) (l.drop n) n (Ln n l.toArray.size) (fill (l.take n) 0 x a) W (fun j => by simp [List.getElem?_drop]) (by rw [hdl]; exact hseq)
      (hT x W hb (fun j K hK => hx j (by
        have := (List.getElem?_eq_some_iff.1 hK).1
        omega) K hK))
    rw [hputs x, ← hdl]
    exact this) n _ a { w with drawn := w.drawn + 1 } inv0 hleft ⟨hdr w, fun _ => undef, by
      rw [puts_agree (p' := fun _ => false) (x' := fun _ => undef) (List.range n) a (fun j _ => ⟨getD_replicate_false _ _, fun _ => rfl⟩)]
      exact (show ∀ (L : List Nat) (b : Act), b = puts l.toArray (fun _ => undef) (fun _ => false) L b from fun L => by
        induction L with
        | nil => intro b; rfl
        | cons j L ih => intro b; unfold puts; simpa using ih b) _ _, fun j _ hl => by rw [getD_replicate_false] at hl; cases hl⟩
  have e : n + (l.toArray.size - n) = l.toArray.size := by omega
  rw [e] at H
  exact H
end

abbrev Ctx := List (Option Tmp × DK)
def dep1 (x : Nat → Value) (j : Nat) : Option (Option Tmp × DK) → Act → World → Prop
  | some (some t, K), a, W => x j = a.eval (.tmp t) ∧ K x (a.eval (.tmp t)) W
  | _, _, _ => True
def deps (x : Nat → Value) (Γ : Ctx) (a : Act) (W : World) : List Nat → Prop
  | [] => True
  | j :: js => dep1 x j Γ[j]? a W ∧ deps x Γ a W js
theorem deps_of {x : Nat → Value} {Γ : Ctx} {a : Act} {W : World} : ∀ (js : List Nat), (∀ j ∈ js, dep1 x j Γ[j]? a W) → deps x Γ a W js
  | [], _ => trivial
  | j :: js, h => ⟨h j (by simp), deps_of js (fun k hk => h k (by simp [hk]))⟩
def facts (x : Nat → Value) (W : World) : Nat → Ctx → Prop
  | _, [] => True
  | k, (_, K) :: l => K x (x k) W ∧ facts x W (k + 1) l
theorem facts_of {x : Nat → Value} {W : World} : ∀ (l : Ctx) (k : Nat), (∀ (j : Nat) (K : DK), (l.map (·.2))[j]? = some K → K x (x (k + j)) W) → facts x W k l
  | [], _, _ => trivial
  | (d, K) :: l, k, h => ⟨h 0 K rfl, facts_of l (k + 1) (fun j K' hj => by have := h (j + 1) K' (by simpa using hj); rw [show k + 1 + j = k + (j + 1) by omega]; exact this)⟩
def GOK3 (Γ : Ctx) (o : Oper) : Prop := o.guard = none ∨ ∃ g b t, o.guard = some (g, b) ∧ g ∈ ons o ∧ Γ[g]? = some (some t, fun _ u _ => u = .bool b)
theorem gno {Γ : Ctx} {o : Oper} (h : o.guard = none) : GOK3 Γ o := .inl h
def Ob3 (S : World → World → Prop) (P : Program) (DS : List Tmp) (w0 : World) (a0 : Act) (Γ : Ctx) (o : Oper) (R : DK) : Prop :=
  ∀ (a : Act) (W : World) (x : Nat → Value), S w0 W → deps x Γ a W (ons o) → (∀ t, t ∉ DS → a.eval (.tmp t) = a0.eval (.tmp t)) →
    ∀ (K : Act → World → Prop) (Q : Exit → Act → World → Prop), (∀ v W', R x v W' → S W W' → K (a.put o.dst v) W') → o.wp P a W K Q

def walk3 (S : World → World → Prop) (P : Program) (DS : List Tmp) (w0 : World) (a0 : Act) (T : Ctx → Prop) : Ctx → List Oper → Prop
  | Γ, [] => T Γ
  | Γ, o :: l => ∃ R, Stable S R ∧ Loc o R ∧ GOK3 Γ o ∧ Ob3 S P DS w0 a0 Γ o R ∧ walk3 S P DS w0 a0 T (Γ ++ [(o.dst, R)]) l
theorem walk_of_walk3 {S : World → World → Prop} {P : Program} {ops : Array Oper} {n : Nat} {DS : List Tmp} {w0 : World} {a0 : Act} {T : Ctx → Prop} {T' : List DK → Prop} (hDS : ∀ t, t ∉ DS → ∀ j, j < n → dst ops j ≠ some t)
    (hT : ∀ Γ, T Γ → T' (Γ.map (·.2))) :
    ∀ (l : List Oper) (Γ : Ctx), (∀ j, j < l.length → l[j]? = ops[Γ.length + j]?) → (∀ j d R, Γ[j]? = some (d, R) → dst ops j = d) → walk3 S P DS w0 a0 T Γ l → walk S P ops n w0 a0 T' (Γ.map (·.2)) l
  | [], Γ, _, _, h => hT Γ h
  | o :: l, Γ, hl, hΓ, h => by
    obtain ⟨R, hs, hlc, hg, hob, hw⟩ := h
    have h0 : ops[Γ.length]? = some o := by simpa using (hl 0 (by simp)).symm
    have hg' : GOK ops (Γ.map (·.2)) o := by
      rcases hg with hg | ⟨g, b, t, hg, hin, hΓg⟩
      · exact .inl hg
      · obtain ⟨e, he, rfl⟩ := List.mem_map.1 hin
        obtain ⟨he1, he2⟩ := List.mem_filter.1 he
        exact .inr ⟨e.on, b, t, hg, ⟨e, by simpa using he1, he2, rfl⟩, hΓ _ _ _ hΓg, by simp [hΓg]⟩
    refine ⟨R, hs, hlc, hg', fun _ => ?_, ?_⟩
    · intro a W x hb hz hx hd hbase K Q hK
      refine hob a W x hb (deps_of _ fun j hj => ?_) (fun t ht => hbase t (fun j hj => hDS t ht j hj)) K Q hK
      obtain ⟨e, he, rfl⟩ := List.mem_map.1 hj
      obtain ⟨he1, he2⟩ := List.mem_filter.1 he
      have he' : e ∈ o.after := by simpa using he1
      cases hc : Γ[e.on]? with
      | none => trivial
      | some c =>
        obtain ⟨d, K'⟩ := c
        cases d with
        | none => trivial
        | some t =>
          have h1 := hx e he' he2 t (hΓ _ _ _ hc)
          have h2 := hd e he' he2 K' (by simp [hc])
          exact ⟨h1, h1 ▸ h2⟩
    · have := walk_of_walk3 hDS hT l (Γ ++ [(o.dst, R)]) (fun j hj => by
        have := hl (j + 1) (by simp; omega)
        simpa [Nat.add_assoc, Nat.add_comm 1 j] using this) (fun j d R' hj => by
        rcases Nat.lt_or_ge j Γ.length with h | h
        · rw [List.getElem?_append_left h] at hj
          exact hΓ j d R' hj
        · have hjl : j < (Γ ++ [(o.dst, R)]).length := (List.getElem?_eq_some_iff.1 hj).1
          obtain rfl : j = Γ.length := by simp at hjl; omega
          simp at hj
          rw [← hj.1]
          simp [dst, h0]) hw
      simpa using this

theorem region3_w {S : World → World → Prop} (ht' : ∀ a b c, S a b → S b c → S a c) (hdr : ∀ W, S W { W with drawn := W.drawn + 1 }) {P : Program} {Q : Exit → Act → World → Prop} {a : Act} {w : World} {l : List Oper} (n : Nat) (hok : okB l.toArray n = true) (hsz : sizeB l.toArray n a.tmps.size = true)
    (h : walk3 S P ((l.take n).filterMap (·.dst)) w a (fun Γ => ∀ (x : Nat → Value) (W : World), S w W → facts x W 0 Γ → wpList P l.toArray Q (l.drop n) (fill (l.take n) 0 x a) W) [] (l.take n)) :
    wpAny P .any l.toArray Q l.toArray.size (Array.replicate l.toArray.size false) a { w with drawn := w.drawn + 1 } := by
  have hn' : n < l.length := by
    simp only [okB, Bool.and_eq_true, decide_eq_true_eq] at hok
    simpa using hok.1.1.1.1.1
  have htl : (l.take n).length = n := by simp; omega
  refine region_w ht' hdr n hok hsz (walk_of_walk3 (n := n) (fun t ht j hj hd => ht ?_) (fun Γ hT x W hb hx => hT x W hb (facts_of Γ 0 (fun j K hj => by rw [Nat.zero_add]; exact hx j K hj))) (l.take n) [] (fun j hj => by
      rw [htl] at hj
      simp [List.getElem?_take, hj]) (fun j d R hj => by simp at hj) h)
  have hlj : j < l.length := by omega
  simp [dst, hlj] at hd
  exact List.mem_filterMap.2 ⟨l[j], List.mem_iff_getElem.2 ⟨j, by omega, by simp⟩, hd⟩
theorem region3 {S : World → World → Prop} (ht' : ∀ a b c, S a b → S b c → S a c) (hdr : ∀ W, S W { W with drawn := W.drawn + 1 }) {P : Program} {id : Nat} {Q : Exit → Act → World → Prop} {a : Act} {w : World} {l : List Oper} (n : Nat) (hm : P.follows .mixedOrders = true) (hok : okB l.toArray n = true) (hsz : sizeB l.toArray n a.tmps.size = true)
    (h : walk3 S P ((l.take n).filterMap (·.dst)) w a (fun Γ => ∀ (x : Nat → Value) (W : World), S w W → facts x W 0 Γ → wpList P l.toArray Q (l.drop n) (fill (l.take n) 0 x a) W) [] (l.take n)) :
    (Code.region id l.toArray true).wp P Q a w := wp_region_any hm (region3_w ht' hdr n hok hsz h)
section
variable {S : World → World → Prop} {P : Program} {DS : List Tmp} {w0 : World} {a0 : Act} {T : Ctx → Prop} {Γ : Ctx} {o : Oper} {rest : List Oper}

theorem loc_const {o : Oper} {R : Value → World → Prop} : Loc o (fun _ => R) := fun _ _ _ _ _ h => h
theorem op3 (hr : ∀ W, S W W) (v : Value) (hg : GOK3 Γ o) (h : ∀ (a : Act) (W : World) (x : Nat → Value), S w0 W → deps x Γ a W (ons o) → (∀ t, t ∉ DS → a.eval (.tmp t) = a0.eval (.tmp t)) → (execOp a.eval o).run P W = .ok (.value v) W)
    (hn : walk3 S P DS w0 a0 T (Γ ++ [(o.dst, fun _ u _ => u = v)]) rest) : walk3 S P DS w0 a0 T Γ (o :: rest) :=
  ⟨_, fun _ _ _ _ h _ => h, loc_const, hg, fun a W x hb hd hbase K Q hK => by
    unfold Oper.wp
    rw [h a W x hb hd hbase]
    exact hK v W rfl (hr W), hn⟩
/-- One operation that yields a value, and may turn the world. -/
theorem opW3 (R : DK) (hs : Stable S R) (hl : Loc o R) (hg : GOK3 Γ o)
    (h : ∀ (a : Act) (W : World) (x : Nat → Value), S w0 W → deps x Γ a W (ons o) → (∀ t, t ∉ DS → a.eval (.tmp t) = a0.eval (.tmp t)) → ∃ v W', (execOp a.eval o).run P W = .ok (.value v) W' ∧ R x v W' ∧ S W W')
    (hn : walk3 S P DS w0 a0 T (Γ ++ [(o.dst, R)]) rest) : walk3 S P DS w0 a0 T Γ (o :: rest) :=
  ⟨R, hs, hl, hg, fun a W x hb hd hbase K Q hK => by
    obtain ⟨v, W', hrun, hR, hS⟩ := h a W x hb hd hbase
    unfold Oper.wp
    rw [hrun]
    exact hK v W' hR hS, hn⟩
/-- An append. -/
theorem app3 (R : DK) (hs : Stable S R) (hl : Loc o R) (s y : Operand) (t : TypeId) (hop : o.op = .call { callee := .builtin .append, args := #[s, y], argTypes := #[t, t] }) (hg : GOK3 Γ o)
    (h : ∀ (a : Act) (W : World) (x : Nat → Value), S w0 W → deps x Γ a W (ons o) → (∀ t, t ∉ DS → a.eval (.tmp t) = a0.eval (.tmp t)) → ∃ v W', (Builtin.append_ #[t, t] o.type #[a.eval s, a.eval y]).run P W = .ok v W' ∧ R x v W' ∧ S W W')
    (hn : walk3 S P DS w0 a0 T (Γ ++ [(o.dst, R)]) rest) : walk3 S P DS w0 a0 T Γ (o :: rest) :=
  ⟨R, hs, hl, hg, fun a W x hb hd hbase K Q hK => by
    obtain ⟨v, W', hrun, hR, hS⟩ := h a W x hb hd hbase
    unfold Oper.wp
    simp [execOp, hop, resolve, invoke, builtin, hrun, Result.andThen]
    exact hK v W' hR hS, hn⟩
theorem done3 (h : T Γ) : walk3 S P DS w0 a0 T Γ [] := h
end
end Go.Proofs.Ytamldoidalnloaa.RelH

/- Worlds that turn in rows of their own alone, each of them at one index to one value; an append onto a row that the region itself made. No program. -/
namespace Go.Proofs.Ytamldoidalnloaa
open Go.RowKit
open Calm (bcell Blk)
/-- below B nothing turns; a block from B on is as it was, or has x at its index n. -/
structure Sett (n : Nat) (x : Value) (B : Nat) (W W' : World) : Prop where
  below : Below B W W'
  row : ∀ g, B ≤ g → g < W.heap.size → W'.heap[g]? = W.heap[g]? ∨ ∃ cur t, W.heap[g]? = some (.cells cur t (0, 0)) ∧ W'.heap[g]? = some (.cells (cur.setIfInBounds n x) t (0, 0))
theorem take_set_list (l : List Value) (m n : Nat) (x : Value) : (l.set n x).take m = (l.take m).set n x := List.take_set
namespace RelH
open Rel (ons)
variable {S : World → World → Prop} {P : Program} {DS : List Tmp} {w0 : World} {a0 : Act} {U : Ctx → Prop} {Γ : Ctx} {o : Oper} {rest : List Oper}
/-- A call, by a contract. -/
theorem callR3 (R : DK) (hs : Stable S R) (hl : Loc o R) (hof : ∀ W W', S w0 W → Below W.heap.size W W' → S W W') (hg : GOK3 Γ o)
    (h : ∀ (a : Act) (W : World) (x : Nat → Value), S w0 W → deps x Γ a W (ons o) → (∀ t, t ∉ DS → a.eval (.tmp t) = a0.eval (.tmp t)) → ∃ f args, (execOp a.eval o).run P W = .ok (.enter f args) W ∧ Calls P f args W fun e W' => ∃ v, e = .returned v ∧ R x v W' ∧ Below W.heap.size W W')
    (hn : walk3 S P DS w0 a0 U (Γ ++ [(o.dst, R)]) rest) : walk3 S P DS w0 a0 U Γ (o :: rest) :=
  ⟨R, hs, hl, hg, fun a W x hb hd hbase K Q hK => by
    obtain ⟨f, args, hrun, hc⟩ := h a W x hb hd hbase
    unfold Oper.wp
    rw [hrun]
    simp only [Oper.upon]
    refine hc.mono ?_
    rintro e W' ⟨v, rfl, hR, hbb⟩
    exact hK v W' hR (hof W W' hb hbb), hn⟩
end RelH
end Go.Proofs.Ytamldoidalnloaa

/- (search).visit where nothing is left to visit: the louder of what is best so far and a list. -/
namespace Go.Proofs.Ytamldoidalnloaa
open Go.RowKit
open Calm (bcell Blk)

/-- all that lay is as it was, but for one block. -/
structure But (sb : Nat) (w w' : World) : Prop where
  os : w'.os = w.os
  tape : w'.tape = w.tape
  output : w'.output = w.output
  size : w.heap.size ≤ w'.heap.size
  block : ∀ k, Rest sb w.heap.size k → w'.heap[k]? = w.heap[k]?
theorem But.refl (sb : Nat) (w : World) : But sb w w := ⟨rfl, rfl, rfl, Nat.le_refl _, fun _ _ => rfl⟩
theorem But.trans {sb : Nat} {a b c : World} (h : But sb a b) (k : But sb b c) : But sb a c :=
  ⟨k.os.trans h.os, k.tape.trans h.tape, k.output.trans h.output, Nat.le_trans h.size k.size, fun i hi => (k.block i ⟨Nat.lt_of_lt_of_le hi.1 h.size, hi.2⟩).trans (h.block i hi)⟩
theorem But.of {sb : Nat} {w w' : World} (h : Below w.heap.size w w') : But sb w w' := ⟨h.os, h.tape, h.output, h.size, fun k hk => h.block k hk.1⟩
theorem But.drawn {sb : Nat} (w : World) : But sb w { w with drawn := w.drawn + 1 } := ⟨rfl, rfl, rfl, Nat.le_refl _, fun _ _ => rfl⟩
theorem But.put {sb : Nat} (w : World) (i : Nat) (v : Value) : But sb w (w.setCell ⟨sb, i, none⟩ v) := ⟨rfl, rfl, rfl, by simp [World.setCell], fun k hk => Below.heap_setCell _ _ _ _ hk.2⟩
theorem But.below {sb B : Nat} {w w' : World} (h : But sb w w') (h1 : B ≤ sb) (h2 : B ≤ w.heap.size) : Below B w w' := ⟨h.os, h.tape, h.output, h.size, fun k hk => h.block k ⟨by omega, by omega⟩⟩
theorem Cells.but {w w' : World} {A : Option Addr} {zs : List Int} {sb : Nat} (h : Cells w A zs) (ho : Off sb A) (hW : But sb w w') : Cells w' A zs := h.rest ho hW.block
theorem blk_but {w w' : World} {g sb : Nat} {cs : Array Value} (h : Blk w g cs) (hg : g ≠ sb) (hW : But sb w w') : Blk w' g cs := h.of_block (hW.block g ⟨h.lt, hg⟩)

theorem own_room {w : World} {base size n c : Nat} {e : TypeId} {A : Option Addr} {xs : List Value} (h : w.ownsRow base e size (.slice A n c) n xs) : n ≤ c ∧ c ≤ maxLen := by
  rcases h.2 with ⟨h1, h2⟩ | ⟨g, cap, cur, h1, _, _, h2, h3, _⟩
  · cases h1
    exact ⟨Nat.le_refl _, Nat.zero_le _⟩
  · cases h1
    exact ⟨h2, h3⟩
/-- worlds that turn in one block alone, in its cells 6 and 7. -/
structure SetR (sb n : Nat) (l : List Int) (E : Int) (W W' : World) : Prop where
  but : But sb W W'
  rest : ∀ i, i ≠ 6 → i ≠ 7 → W'.cell? ⟨sb, i, none⟩ = W.cell? ⟨sb, i, none⟩
  fr : ∀ i, W'.frozen? ⟨sb, i, none⟩ = W.frozen? ⟨sb, i, none⟩
  c6 : W'.cell? ⟨sb, 6, none⟩ = W.cell? ⟨sb, 6, none⟩ ∨ ∃ B d, W'.cell? ⟨sb, 6, none⟩ = some (.slice B n d) ∧ Cells W' B l ∧ Off sb B ∧ n ≤ d ∧ d ≤ maxLen
  c7 : W'.cell? ⟨sb, 7, none⟩ = W.cell? ⟨sb, 7, none⟩ ∨ W'.cell? ⟨sb, 7, none⟩ = some (.int .i64 E)
namespace RelG
open Rel (Know Ctx deps facts ons GOK3)
variable {S : World → World → Prop} {P : Program} {DS : List Tmp} {w0 : World} {a0 : Act} {T : Ctx → Prop} {Γ : Ctx} {o : Oper} {rest : List Oper}
end RelG

end Go.Proofs.Ytamldoidalnloaa

/- (search).visit: the best list of all that further outputs make. -/
namespace Go.Proofs.Ytamldoidalnloaa
open Go.RowKit
open Calm (bcell Blk)

theorem ownsRow_base {w : World} {base base' e size n : Nat} {v : Value} {xs : List Value} (h : w.ownsRow base e size v n xs) (hb : base' ≤ base) : w.ownsRow base' e size v n xs := by
  refine ⟨h.1, ?_⟩
  rcases h.2 with h | ⟨g, cap, cur, h1, h2, h3⟩
  · exact .inl h
  · exact .inr ⟨g, cap, cur, h1, Nat.le_trans hb h2, h3⟩
theorem cells_grown {X Y : World} {A : Option Addr} {zs : List Int} {row : Option Nat} (h : Cells X A zs) (hg : X.grownBy Y row) (hrow : ∀ r, row = some r → ∃ o : Obj, X.heap[r]? = some o ∧ o.isCells = false) : Cells Y A zs := by
  intro h0
  obtain ⟨b, off, hA, hl, hc⟩ := h h0
  exact ⟨b, off, hA, Nat.lt_of_lt_of_le hl hg.size, fun k hk => cell_kept (hc k hk) hg hrow⟩
theorem but_own {β : Type} (w6 : World) (sb : Nat) : OwnFrom w6.heap.size (fun (_ : β) W => But sb w6 W) := by
  rintro s X Y row h hg hrow
  exact ⟨hg.os.trans h.os, hg.tape.trans h.tape, hg.output.trans h.output, Nat.le_trans h.size hg.size, fun k hk => (hg.block k (Nat.lt_of_lt_of_le hk.1 h.size) (fun e => by have h1 := (hrow k e.symm).1; have h2 := hk.1; omega)).trans (h.block k hk)⟩

end Go.Proofs.Ytamldoidalnloaa

/- Contracts of numbers, CheckSection and CheckState. -/
namespace Go.Proofs.Ytamldoidalnloaa
open Go.RowKit
open Calm (bcell Blk)

theorem numbers_any (b0 b1 b2 a1 a2 sh : Int) (w : World) : Calls Try.prog 98 #[.agg #[(.int .i64 b0), (.int .i64 b1), (.int .i64 b2), (.int .i64 a1), (.int .i64 a2), (.int .i64 sh)]] w fun r w' => r = .returned (.agg #[(.int .i64 b0), (.int .i64 b1), (.int .i64 b2), (.int .i64 a1), (.int .i64 a2), (.int .i64 sh)]) ∧ Below w.heap.size w w' := by
  go_enter Try.func98, Try.ntmps98
  go_wp2
  exact bodyPost_ret (v := .agg #[(.int .i64 b0), (.int .i64 b1), (.int .i64 b2), (.int .i64 a1), (.int .i64 a2), (.int .i64 sh)]) (by simp [results, Try.results98, go_sem]) rfl ⟨rfl, by (repeat (first | (with_reducible exact Below.refl _ _) | ((with_reducible refine Below.setCell ?_ ?_ _); rotate_left 1; focus (first | (simp; done) | (simp; omega) | (simp at *; omega))) | ((with_reducible refine Below.alloc ?_ ?_ _); rotate_left 1; focus (first | (simp; done) | (simp; omega) | (simp at *; omega))) | (with_reducible refine Below.drew ?_) | ((with_reducible refine Calm.step (by assumption) ?_ ?_); rotate_left 1; focus (first | (simp; done) | (simp; omega) | (simp at *; omega)))))⟩
/-- the error of a section. -/
def secErr (b0 b1 b2 a1 a2 sh : Int) : Int := firstOf [eachErr [b0, b1, b2, a1, a2] (-32767) 32767, rangeErr sh 0 15]
set_option maxHeartbeats 2000000 in
set_option maxRecDepth 100000 in
theorem checkSection_any (b0 b1 b2 a1 a2 sh : Int) (w : World) : Calls Try.prog 83 #[.agg #[(.int .i64 b0), (.int .i64 b1), (.int .i64 b2), (.int .i64 a1), (.int .i64 a2), (.int .i64 sh)]] w fun r w' => r = .returned (.int .i64 (secErr b0 b1 b2 a1 a2 sh)) ∧ Below w.heap.size w w' := by
  have HM : Hid (∀ W A c, Cells W A [b0, b1, b2, a1, a2] → Calls Try.prog 84 #[.slice A 5 c, .func (.func 99) #[] #[]] W fun r w' => (∃ B d, r = .returned (.slice B 5 d) ∧ Cells w' B ([b0, b1, b2, a1, a2].map fun n => rangeErr n (-32767) 32767)) ∧ Below W.heap.size W w') := Lib.hid (fun W A c q => sMapTap_any A [b0, b1, b2, a1, a2] c W q (by simp))
  have HF : Hid (∀ W B d, Cells W B ([b0, b1, b2, a1, a2].map fun n => rangeErr n (-32767) 32767) → Calls Try.prog 47 #[.slice B 5 d] W fun r w' => r = .returned (.int .i64 (eachErr [b0, b1, b2, a1, a2] (-32767) 32767)) ∧ W = w') := Lib.hid (fun W B d q => sFirst_any _ B d W (by simp) q)
  have HF2 : Hid (∀ (W : World) (a b : Int), Calls Try.prog 47 #[.slice (some ⟨W.heap.size, 0, none⟩) 2 2] (W.alloc (.cells #[(.int .i64 a), (.int .i64 b)] 24)) fun r w' => r = .returned (.int .i64 (firstOf [a, b])) ∧ (W.alloc (.cells #[(.int .i64 a), (.int .i64 b)] 24)) = w') := Lib.hid (fun W a b => sFirst_cells [a, b] W (by simp))
  have HS : Hid (secErr b0 b1 b2 a1 a2 sh = firstOf [eachErr [b0, b1, b2, a1, a2] (-32767) 32767, rangeErr sh 0 15]) := Lib.hid rfl
  obtain ⟨R, hR⟩ : ∃ R, R = secErr b0 b1 b2 a1 a2 sh := ⟨_, rfl⟩
  rw [← hR] at HS ⊢
  obtain ⟨E, hE⟩ : ∃ E, E = eachErr [b0, b1, b2, a1, a2] (-32767) 32767 := ⟨_, rfl⟩
  rw [← hE] at HS HF
  clear hR hE
  go_enter Try.func83, Try.ntmps83
  go_wp2_with (go_at_call 98; refine (numbers_any _ _ _ _ _ _ _).mono ?_; rintro r w1 ⟨rfl, hb1⟩; have K0 : Blk w1 w.heap.size #[(.int .i64 b0), (.int .i64 b1), (.int .i64 b2), (.int .i64 a1), (.int .i64 a2), (.int .i64 sh)] := Blk.below (by (repeat (first | ((with_reducible refine Blk.at_ ?_); focus (first | rfl | (simp; done) | (simp; omega))) | (with_reducible refine Blk.alloc ?_ _) | (with_reducible refine Blk.below ?_ (by with_reducible assumption)) | (with_reducible refine Blk.drew ?_)))) hb1; have HK0 := Lib.hid K0; have HB1 := Lib.hid (show Below w.heap.size w w1 from Below.trans (by (repeat (first | (with_reducible exact Below.refl _ _) | ((with_reducible refine Below.setCell ?_ ?_ _); rotate_left 1; focus (first | (simp; done) | (simp; omega) | (simp at *; omega))) | ((with_reducible refine Below.alloc ?_ ?_ _); rotate_left 1; focus (first | (simp; done) | (simp; omega) | (simp at *; omega))) | (with_reducible refine Below.drew ?_) | ((with_reducible refine Calm.step (by assumption) ?_ ?_); rotate_left 1; focus (first | (simp; done) | (simp; omega) | (simp at *; omega)))))) (hb1.mono (by simp))); have l0 := K0.lt; clear K0 hb1)
  refine name_world ?_
  intro w2 e2
  have K1 : Blk w2 w1.heap.size #[(.int .i64 b0), (.int .i64 b1), (.int .i64 b2), (.int .i64 a1), (.int .i64 a2), (.int .i64 sh)] := by rw [e2]; exact Blk.new _ _ _
  have HK1 := Lib.hid K1
  have K0 : Blk w2 w.heap.size #[(.int .i64 b0), (.int .i64 b1), (.int .i64 b2), (.int .i64 a1), (.int .i64 a2), (.int .i64 sh)] := by rw [e2]; exact HK0.out.alloc _
  have HB2 : Hid (Below w.heap.size w w2) := Lib.hid (by rw [e2]; exact HB1.out.alloc HB1.out.size _)
  have HC2 : Hid (Cells w2 (some ⟨w1.heap.size, 0, none⟩) [b0, b1, b2, a1, a2]) := Lib.hid (fun _ => ⟨w1.heap.size, 0, rfl, K1.lt, fun k hk => by
    have : k = 0 ∨ k = 1 ∨ k = 2 ∨ k = 3 ∨ k = 4 := by simp at hk; omega
    rw [Nat.zero_add, K1.c k]
    rcases this with rfl | rfl | rfl | rfl | rfl <;> rfl⟩)
  obtain ⟨c0, c1, c2, c3, c4, c5, cl, cf⟩ := K0.o6
  have hs2 := HB2.out.size
  clear e2 K1 K0 HK0 HB1
  refine Rel.region3 5 (by kernel_rfl) (by kernel_rfl) (by kernel_rfl) ?_
  simp only [List.take_succ_cons, List.take_zero, List.drop_succ_cons, List.drop_zero, List.filterMap_cons, List.filterMap_nil]
  iterate 1 (apply Rel.op3; (focus (first | exact Rel.gno rfl | exact Rel.gyes _ true _ rfl rfl rfl | exact Rel.gyes _ false _ rfl rfl rfl)); (focus (intro a W hb hd hbase; obtain ⟨hc, hf⟩ := bcell hb; clear hb hf; simp [Rel.deps, Rel.dep1, Rel.ons, Region.binds, Act.eval] at hd; simp only [Act.eval, List.mem_cons, List.not_mem_nil, not_or, and_imp, or_false, Array.getD_eq_getD_getElem?] at hbase; go_simp; (try go_bits); (try rfl); done)); (try simp only [List.nil_append, List.cons_append]))
  refine Rel.callR3 (fun u W => ∃ B d, u = .slice B 5 d ∧ Cells W B ([b0, b1, b2, a1, a2].map fun n => rangeErr n (-32767) 32767)) (fun u W W' ⟨B, c, h1, h2⟩ hb => ⟨B, c, h1, h2.below hb⟩) (Rel.gno rfl) ?_ ?_
  · intro a W hb hd hbase
    refine ⟨84, #[.slice (some ⟨w1.heap.size, 0, none⟩) 5 6, .func (.func 99) #[] #[]], ?_, (HM.out W _ _ (HC2.out.below hb)).mono (fun e W' ⟨⟨B, c, h1, h3⟩, h4⟩ => ⟨_, h1, ⟨B, c, rfl, h3⟩, h4⟩)⟩
    clear hb
    simp [Rel.deps, Rel.dep1, Rel.ons, Region.binds, Act.eval] at hd
    go_simp
    (first | done | rfl | (refine ⟨?_, ?_⟩ <;> rfl))
  (try simp only [List.nil_append, List.cons_append])
  refine Rel.callR3 (fun u W => u = (.int .i64 E)) (fun _ _ _ h _ => h) (Rel.gno rfl) ?_ ?_
  · intro a W hb hd hbase
    simp [Rel.deps, Rel.dep1, Rel.ons, Region.binds, Act.eval] at hd
    obtain ⟨B, ⟨d, h1⟩, h2⟩ := hd
    refine ⟨47, #[.slice B 5 d], ?_, (HF.out W B d h2).mono (fun e W' ⟨he, hw⟩ => ⟨_, he, rfl, hw ▸ Below.refl _ _⟩)⟩
    clear hb h2
    go_simp
    (first | done | rfl | (refine ⟨?_, ?_⟩ <;> rfl))
  (try simp only [List.nil_append, List.cons_append])
  iterate 2 (apply Rel.op3; (focus (first | exact Rel.gno rfl | exact Rel.gyes _ true _ rfl rfl rfl | exact Rel.gyes _ false _ rfl rfl rfl)); (focus (intro a W hb hd hbase; obtain ⟨hc, hf⟩ := bcell hb; clear hb hf; simp [Rel.deps, Rel.dep1, Rel.ons, Region.binds, Act.eval] at hd; simp only [Act.eval, List.mem_cons, List.not_mem_nil, not_or, and_imp, or_false, Array.getD_eq_getD_getElem?] at hbase; go_simp; (try go_bits); (try rfl); done)); (try simp only [List.nil_append, List.cons_append]))
  refine Rel.done3 ?_
  intro x w3 hb3 hx
  simp only [Rel.facts, Nat.zero_add, Nat.reduceAdd] at hx
  obtain ⟨e0, ⟨B, d, e1, _⟩, e2, e3, e4, _⟩ := hx
  simp only [Rel.fill, Nat.zero_add, Nat.reduceAdd, e0, e1, e2, e3, e4]
  simp only [Act.put, List.setIfInBounds_toArray, List.set_cons_zero, List.set_cons_succ]
  have HB3 := Lib.hid (HB2.out.trans (hb3.mono hs2))
  clear e0 e1 e2 e3 e4 hb3 HM HF
  go_wp2_with (first
    | (go_at_call 100; refine (sWithin_any _ _ _ _).mono ?_; rintro r w' ⟨rfl, rfl⟩)
    | (go_at_call 47; refine (HF2.out _ _ _).mono ?_; rintro r w' ⟨rfl, rfl⟩))
  go_ret
  exact ⟨ret_i HS.out.symm, HB3.out.alloc HB3.out.size _⟩
/-- the error of a state of sections. -/
def sstErr (x1 x2 y1 y2 : Int) : Int := eachErr [x1, x2, y1, y2] (-32767) 32767
theorem sState_any (x1 x2 y1 y2 : Int) (w : World) : Calls Try.prog 92 #[.agg #[(.int .i64 x1), (.int .i64 x2), (.int .i64 y1), (.int .i64 y2)]] w fun r w' => r = .returned (.int .i64 (sstErr x1 x2 y1 y2)) ∧ Below w.heap.size w w' := by
  have HM : Hid (∀ W A c, Cells W A [x1, x2, y1, y2] → Calls Try.prog 84 #[.slice A 4 c, .func (.func 85) #[] #[]] W fun r w' => (∃ B d, r = .returned (.slice B 4 d) ∧ Cells w' B ([x1, x2, y1, y2].map fun n => rangeErr n (-32767) 32767)) ∧ Below W.heap.size W w') := Lib.hid (fun W A c q => sMapVal_any A [x1, x2, y1, y2] c W q (by simp))
  have HF : Hid (∀ W B d, Cells W B ([x1, x2, y1, y2].map fun n => rangeErr n (-32767) 32767) → Calls Try.prog 47 #[.slice B 4 d] W fun r w' => r = .returned (.int .i64 (sstErr x1 x2 y1 y2)) ∧ W = w') := Lib.hid (fun W B d q => sFirst_any _ B d W (by simp) q)
  have HK : Hid (∀ W, Blk W (w.heap.size + 1) #[(.int .i64 x1), (.int .i64 x2), (.int .i64 y1), (.int .i64 y2)] → Cells W (some ⟨w.heap.size + 1, 0, none⟩) [x1, x2, y1, y2]) := Lib.hid (fun W K _ => ⟨w.heap.size + 1, 0, rfl, K.lt, fun k hk => by
    have : k = 0 ∨ k = 1 ∨ k = 2 ∨ k = 3 := by simp at hk; omega
    rw [Nat.zero_add, K.c k]
    rcases this with rfl | rfl | rfl | rfl <;> rfl⟩)
  go_enter Try.func92, Try.ntmps92
  go_wp2_with (go_at_call 84; refine (HM.out _ _ _ (HK.out _ (by (repeat (first | ((with_reducible refine Blk.at_ ?_); focus (first | rfl | (simp; done) | (simp; omega))) | (with_reducible refine Blk.alloc ?_ _) | (with_reducible refine Blk.below ?_ (by with_reducible assumption)) | (with_reducible refine Blk.drew ?_)))))).mono ?_; rintro r w1 ⟨⟨B, d, rfl, hc1⟩, hb1⟩; have HC1 := Lib.hid hc1; clear hc1; refine Hid.out ?_)
  unfold Hid
  go_wp2_with (go_at_call 47; refine (HF.out _ _ _ HC1.out).mono ?_; rintro r w2 ⟨rfl, rfl⟩)
  go_ret
  exact ⟨rfl, Below.trans (by (repeat (first | (with_reducible exact Below.refl _ _) | ((with_reducible refine Below.setCell ?_ ?_ _); rotate_left 1; focus (first | (simp; done) | (simp; omega) | (simp at *; omega))) | ((with_reducible refine Below.alloc ?_ ?_ _); rotate_left 1; focus (first | (simp; done) | (simp; omega) | (simp at *; omega))) | (with_reducible refine Below.drew ?_) | ((with_reducible refine Calm.step (by assumption) ?_ ?_); rotate_left 1; focus (first | (simp; done) | (simp; omega) | (simp at *; omega)))))) (hb1.mono (by simp; omega))⟩
end Go.Proofs.Ytamldoidalnloaa

/- Contracts of mapped over sections and of checkSections. -/
namespace Go.Proofs.Ytamldoidalnloaa
open Go.RowKit
open Calm (bcell Blk)

structure Sec where
  b0 : Int
  b1 : Int
  b2 : Int
  a1 : Int
  a2 : Int
  sh : Int
def Sec0 : Sec := ⟨0, 0, 0, 0, 0, 0⟩
def secE (s : Sec) : Int := secErr s.b0 s.b1 s.b2 s.a1 s.a2 s.sh
/-- the slice of these sections lies in memory. -/
def SCells (w : World) (A : Option Addr) (l : List Sec) : Prop :=
  0 < l.length → ∃ b off, A = some ⟨b, off, none⟩ ∧ b < w.heap.size ∧ ∀ k, k < l.length →
    w.cell? ⟨b, off + k * 6, none⟩ = some (.int .i64 ((l.getD k Sec0).b0)) ∧ w.cell? ⟨b, off + k * 6 + 1, none⟩ = some (.int .i64 ((l.getD k Sec0).b1)) ∧ w.cell? ⟨b, off + k * 6 + 2, none⟩ = some (.int .i64 ((l.getD k Sec0).b2)) ∧
    w.cell? ⟨b, off + k * 6 + 3, none⟩ = some (.int .i64 ((l.getD k Sec0).a1)) ∧ w.cell? ⟨b, off + k * 6 + 4, none⟩ = some (.int .i64 ((l.getD k Sec0).a2)) ∧ w.cell? ⟨b, off + k * 6 + 5, none⟩ = some (.int .i64 ((l.getD k Sec0).sh))
theorem SCells.below {w w' : World} {A : Option Addr} {l : List Sec} (h : SCells w A l) (hb : Below w.heap.size w w') : SCells w' A l := by
  intro h0
  obtain ⟨b, off, hA, hl, hc⟩ := h h0
  refine ⟨b, off, hA, Nat.lt_of_lt_of_le hl hb.size, fun k hk => ?_⟩
  obtain ⟨q0, q1, q2, q3, q4, q5⟩ := hc k hk
  exact ⟨(hb.cell (p := ⟨b, off + k * 6, none⟩) hl).trans q0, (hb.cell (p := ⟨b, off + k * 6 + 1, none⟩) hl).trans q1, (hb.cell (p := ⟨b, off + k * 6 + 2, none⟩) hl).trans q2, (hb.cell (p := ⟨b, off + k * 6 + 3, none⟩) hl).trans q3, (hb.cell (p := ⟨b, off + k * 6 + 4, none⟩) hl).trans q4, (hb.cell (p := ⟨b, off + k * 6 + 5, none⟩) hl).trans q5⟩
def serrsK (l : List Sec) (k : Nat) : List Int := (l.take k).map secE
theorem serrsK_len {l : List Sec} {k : Nat} (hk : k ≤ l.length) : (serrsK l k).length = k := by simp [serrsK]; omega
theorem serrsK_succ {l : List Sec} {k : Nat} (hk : k < l.length) : serrsK l (k + 1) = serrsK l k ++ [secE (l.getD k Sec0)] := by
  unfold serrsK
  rw [List.take_succ_eq_append_getElem hk, List.map_append, List.getD_eq_getElem?_getD, List.getElem?_eq_getElem hk]
  rfl
theorem serrsK_all (l : List Sec) : serrsK l l.length = l.map secE := by simp [serrsK]
set_option maxHeartbeats 2000000 in
set_option maxRecDepth 100000 in
theorem sMapSec_any (A : Option Addr) (l : List Sec) (c : Nat) (w : World) (hC : SCells w A l) (hn : l.length ≤ 5000) :
    Calls Try.prog 82 #[.slice A l.length c, .func (.func 83) #[] #[]] w fun r w' => (∃ B d, r = .returned (.slice B l.length d) ∧ Cells w' B (l.map secE)) ∧ Below w.heap.size w w' := by
  obtain ⟨i0, hii, hz0, hz1, hz2⟩ := info_parts Try.infoE
  have HC := Lib.hid hC
  obtain ⟨N, hN⟩ : ∃ N, N = l.length := ⟨_, rfl⟩
  have HN := Lib.hid hN
  have HL : Hid (∀ k, k ≤ N → (serrsK l k).length = k) := Lib.hid (fun k hk => serrsK_len (by rw [← hN]; exact hk))
  rw [← hN] at hn ⊢
  clear hN hC
  go_enter Try.func82, Try.ntmps82
  go_wp2
  go_loopw [5, 10] (fun v i wr => ∃ k : Nat, k ≤ N ∧ i = (.int .i64 ((k : Int))) ∧ wr.ownsRow w.heap.size 24 1 v (serrsK l k).length ((serrsK l k).map (Value.int .i64)) ∧ Below w.heap.size w wr) (fun _ i _ => N - (intOf i).toNat)
  case atStart => exact ⟨0, Nat.zero_le _, rfl, World.ownsRow_nil _ _ _ _, Below.refl _ _⟩
  case round =>
    obtain ⟨k, hk, rfl, hown, hB⟩ := hrel
    have HO := Lib.hid hown
    have hle := Lib.hid (HL.out k hk)
    have hsz := hB.size
    clear hown
    by_cases hlt : k < N
    · obtain ⟨b, o, rfl, l1, k1⟩ := HC.out (by rw [← HN.out]; omega)
      obtain ⟨q0, q1, q2, q3, q4, q5⟩ := k1 k (by rw [← HN.out]; exact hlt)
      have y0 := (hB.cell (p := ⟨b, o + k * 6, none⟩) l1).trans q0
      have y1 := (hB.cell (p := ⟨b, o + k * 6 + 1, none⟩) l1).trans q1
      have y2 := (hB.cell (p := ⟨b, o + k * 6 + 2, none⟩) l1).trans q2
      have y3 := (hB.cell (p := ⟨b, o + k * 6 + 3, none⟩) l1).trans q3
      have y4 := (hB.cell (p := ⟨b, o + k * 6 + 4, none⟩) l1).trans q4
      have y5 := (hB.cell (p := ⟨b, o + k * 6 + 5, none⟩) l1).trans q5
      have HS := Lib.hid (serrsK_succ (show k < l.length by rw [← HN.out]; exact hlt))
      have HB := Lib.hid hB
      obtain ⟨⟨s0, s1, s2, s3, s4, s5⟩, hx⟩ : ∃ x, x = l.getD k Sec0 := ⟨_, rfl⟩
      rw [← hx] at y0 y1 y2 y3 y4 y5 HS
      simp only [] at y0 y1 y2 y3 y4 y5
      obtain ⟨E, hE⟩ : ∃ E, E = secErr s0 s1 s2 s3 s4 s5 := ⟨_, rfl⟩
      have HSE : Hid (serrsK l (k + 1) = serrsK l k ++ [E]) := Lib.hid (by rw [HS.out, hE]; rfl)
      have HCS : Hid (∀ W, Calls Try.prog 83 #[.agg #[(.int .i64 s0), (.int .i64 s1), (.int .i64 s2), (.int .i64 s3), (.int .i64 s4), (.int .i64 s5)]] W fun r w' => r = .returned (.int .i64 E) ∧ Below W.heap.size W w') := Lib.hid (fun W => by rw [hE]; exact checkSection_any s0 s1 s2 s3 s4 s5 W)
      clear k1 hx q0 q1 q2 q3 q4 q5 hE HS hB
      go_wp2_with (first
        | (go_at_call 83; refine (HCS.out _).mono ?_; rintro r w2 ⟨rfl, hb2⟩; have HB2 := Lib.hid ((HB.out.alloc hsz _).trans (hb2.mono (by simp; omega))); have HO2 := Lib.hid (ownsRow_below (HO.out.alloc _) hb2); have hs2 := HB2.out.size; clear hb2)
        | (at_builtin; refine wpList_append_own _ rfl _ _ 74 rfl w.heap.size 24 i0 (.int .i64 0) 1 8 Try.underlying74 hii hz0 hz1 hz2 rfl (by decide) _ _ _ rfl (HO2.out.alloc _) ⟨w2.heap.size, 0, none⟩ 1 1 [.int .i64 E] rfl rfl ?c1 ?c2 ?c3 ?c4 ?c5 ?_))
      case c1 =>
        intro j u hj
        match j, hj with
        | 0, hj => simp at hj; subst hj; simp [Addr.add]
      case c2 => intro u hu; simp at hu; subst hu; rfl
      case c3 => have := hle.out; unfold maxLen; omega
      case c4 => have := hle.out; omega
      case c5 => simp; omega
      intro v' w1 hown' hgrow _
      have hB' : Below w.heap.size w w1 := (HB2.out.alloc hs2 _).grown hgrow (by simp; omega) (fun j hj => (HO.out.lt j hj).1)
      have HO' := Lib.hid hown'
      clear hgrow hown'
      go_wp2
      go_roundw
      case rel => exact ⟨k + 1, by omega, by go_num, by rw [HSE.out]; simpa using HO'.out, hB'⟩
      case measure => simp [intOf]; omega
    · obtain rfl : k = N := by omega
      have hown := HO.out
      have e : serrsK l k = l.map secE := by rw [HN.out]; exact serrsK_all _
      rw [hle.out, e] at hown
      obtain ⟨B, d, rfl, _, hr⟩ := own_ints hown (by simp [← HN.out])
      have HR := Lib.hid hr
      clear hown e hr
      go_wp2
      go_ret
      exact ⟨⟨B, d, rfl, HR.out⟩, hB⟩
/-- the error of sections. -/
def secsErr (l : List Sec) : Int := firstOf [if 8 < l.length then 5 else 0, firstOf (l.map secE)]
set_option maxHeartbeats 2000000 in
theorem checkSections_any (l : List Sec) (A : Option Addr) (c : Nat) (w : World) (hC : SCells w A l) (hn : l.length ≤ 5000) :
    Calls Try.prog 48 #[.slice A l.length c] w fun r w' => r = .returned (.int .i64 (secsErr l)) ∧ Below w.heap.size w w' := by
  have HM : Hid (∀ W, SCells W A l → Calls Try.prog 82 #[.slice A l.length c, .func (.func 83) #[] #[]] W fun r w' => (∃ B d, r = .returned (.slice B l.length d) ∧ Cells w' B (l.map secE)) ∧ Below W.heap.size W w') := Lib.hid (fun W q => sMapSec_any A l c W q hn)
  obtain ⟨E, hE⟩ : ∃ E, E = firstOf (l.map secE) := ⟨_, rfl⟩
  have HF : Hid (∀ W B d, Cells W B (l.map secE) → Calls Try.prog 47 #[.slice B l.length d] W fun r w' => r = .returned (.int .i64 E) ∧ W = w') := Lib.hid (fun W B d q => by
    have e : l.length = (l.map secE).length := by simp
    rw [e, hE]; exact sFirst_any _ B d W (by simpa using hn) q)
  have HF2 : Hid (∀ (W : World) (a b : Int), Calls Try.prog 47 #[.slice (some ⟨W.heap.size, 0, none⟩) 2 2] (W.alloc (.cells #[(.int .i64 a), (.int .i64 b)] 24)) fun r w' => r = .returned (.int .i64 (firstOf [a, b])) ∧ (W.alloc (.cells #[(.int .i64 a), (.int .i64 b)] 24)) = w') := Lib.hid (fun W a b => sFirst_cells [a, b] W (by simp))
  have HS : Hid (secsErr l = firstOf [if 8 < l.length then 5 else 0, E]) := Lib.hid (by rw [hE]; rfl)
  have HC := Lib.hid hC
  obtain ⟨R, hR⟩ : ∃ R, R = secsErr l := ⟨_, rfl⟩
  rw [← hR] at HS ⊢
  generalize l.length = N at *
  clear hR hC hE
  by_cases h0 : 8 < N
  · have h1 : (8 : Int) < (N : Int) := by omega
    have HS2 : Hid (firstOf [5, E] = R) := Lib.hid (by rw [HS.out, if_pos h0])
    clear HS
    go_enter Try.func48, Try.ntmps48
    go_wp2_with (first
      | (go_at_call 81; refine (sWhen_any _ _ _).mono ?_; rintro r w' ⟨rfl, rfl⟩)
      | (go_at_call 82; refine (HM.out _ HC.out).mono ?_; rintro r w1 ⟨⟨B, d, rfl, hc1⟩, hb1⟩; have HC1 := Lib.hid hc1; clear hc1; refine Hid.out ?_))
    unfold Hid
    go_wp2_with (go_at_call 47; refine (HF.out _ _ _ HC1.out).mono ?_; rintro r w2 ⟨rfl, rfl⟩; refine Hid.out ?_)
    unfold Hid
    go_wp2_with (go_at_call 47; refine (HF2.out _ _ _).mono ?_; rintro r w2 ⟨rfl, rfl⟩)
    go_ret
    exact ⟨ret_i HS2.out, hb1.alloc hb1.size _⟩
  · have h1 : ¬ (8 : Int) < (N : Int) := by omega
    have HS2 : Hid (firstOf [0, E] = R) := Lib.hid (by rw [HS.out, if_neg h0])
    clear HS
    go_enter Try.func48, Try.ntmps48
    go_wp2_with (first
      | (go_at_call 81; refine (sWhen_any _ _ _).mono ?_; rintro r w' ⟨rfl, rfl⟩)
      | (go_at_call 82; refine (HM.out _ HC.out).mono ?_; rintro r w1 ⟨⟨B, d, rfl, hc1⟩, hb1⟩; have HC1 := Lib.hid hc1; clear hc1; refine Hid.out ?_))
    unfold Hid
    go_wp2_with (go_at_call 47; refine (HF.out _ _ _ HC1.out).mono ?_; rintro r w2 ⟨rfl, rfl⟩; refine Hid.out ?_)
    unfold Hid
    go_wp2_with (go_at_call 47; refine (HF2.out _ _ _).mono ?_; rintro r w2 ⟨rfl, rfl⟩)
    go_ret
    exact ⟨ret_i HS2.out, hb1.alloc hb1.size _⟩
end Go.Proofs.Ytamldoidalnloaa

/- Contracts of raw, limited and step of sections. -/
namespace Go.Proofs.Ytamldoidalnloaa
open Go.RowKit
open Calm (bcell Blk)

def bd15 (x : Int) : Prop := -32767 ≤ x ∧ x ≤ 32767
/-- the raw output, and the output. -/
def rawF (b0 b1 b2 a1 a2 sh x1 x2 y1 y2 i : Int) : Int := (b0 * i + b1 * x1 + b2 * x2 - a1 * y1 - a2 * y2) / 2 ^ sh.toNat
def mn (x y : Int) : Int := if y < x then y else x
def limF (n : Int) : Int := mx (-32767) (mn 32767 n)
theorem limF_bd (n : Int) : bd15 (limF n) := by unfold limF mx mn bd15; split <;> split <;> omega
theorem limF_in {n : Int} (h : bd15 n) : limF n = n := by unfold bd15 at h; unfold limF mx mn; split <;> split <;> omega
theorem raw_any (b0 b1 b2 a1 a2 sh x1 x2 y1 y2 i : Int) (w : World) (h0 : bd15 b0) (h1 : bd15 b1) (h2 : bd15 b2) (h3 : bd15 a1) (h4 : bd15 a2) (h5 : 0 ≤ sh ∧ sh ≤ 15) (k1 : bd15 x1) (k2 : bd15 x2) (k3 : bd15 y1) (k4 : bd15 y2) (k5 : bd15 i) :
    Calls Try.prog 114 #[.agg #[(.int .i64 b0), (.int .i64 b1), (.int .i64 b2), (.int .i64 a1), (.int .i64 a2), (.int .i64 sh)], .agg #[(.int .i64 x1), (.int .i64 x2), (.int .i64 y1), (.int .i64 y2)], (.int .i64 i)] w fun r w' => r = .returned (.int .i64 (rawF b0 b1 b2 a1 a2 sh x1 x2 y1 y2 i)) ∧ Below w.heap.size w w' := by
  have m0 := mul_bd h0 k5
  have m1 := mul_bd h1 k1
  have m2 := mul_bd h2 k2
  have m3 := mul_bd h3 k3
  have m4 := mul_bd h4 k4
  obtain ⟨p1, p2⟩ := m0
  obtain ⟨p3, p4⟩ := m1
  obtain ⟨p5, p6⟩ := m2
  obtain ⟨p7, p8⟩ := m3
  obtain ⟨p9, p10⟩ := m4
  obtain ⟨q1, q2⟩ := h5
  clear h0 h1 h2 h3 h4 k1 k2 k3 k4 k5
  go_enter Try.func114, Try.ntmps114
  go_wp2
  go_ret
  exact ⟨rfl, by (repeat (first | (with_reducible exact Below.refl _ _) | ((with_reducible refine Below.setCell ?_ ?_ _); rotate_left 1; focus (first | (simp; done) | (simp; omega) | (simp at *; omega))) | ((with_reducible refine Below.alloc ?_ ?_ _); rotate_left 1; focus (first | (simp; done) | (simp; omega) | (simp at *; omega))) | (with_reducible refine Below.drew ?_) | ((with_reducible refine Calm.step (by assumption) ?_ ?_); rotate_left 1; focus (first | (simp; done) | (simp; omega) | (simp at *; omega)))))⟩
theorem limited_any (n : Int) (w : World) : Calls Try.prog 113 #[(.int .i64 n)] w fun r w' => r = .returned (.int .i64 (limF n)) ∧ w = w' := by
  have hmax := max2_any
  have hmin : ∀ W : World, (Builtin.min_ #[3, 3] 3 #[(.int .i64 32767), (.int .i64 n)]).run Try.prog W = .ok (.int .i64 (mn 32767 n)) W := fun W => by simp [Builtin.min_, Builtin.min2, mn]
  go_enter Try.func113, Try.ntmps113
  go_wp2
  go_ret
  exact ⟨rfl, rfl⟩
def outS (b0 b1 b2 a1 a2 sh x1 x2 y1 y2 i : Int) : Int := limF (rawF b0 b1 b2 a1 a2 sh x1 x2 y1 y2 i)
set_option maxHeartbeats 1000000 in
theorem sStep_any (b0 b1 b2 a1 a2 sh x1 x2 y1 y2 i : Int) (w : World) (h0 : bd15 b0) (h1 : bd15 b1) (h2 : bd15 b2) (h3 : bd15 a1) (h4 : bd15 a2) (h5 : 0 ≤ sh ∧ sh ≤ 15) (k1 : bd15 x1) (k2 : bd15 x2) (k3 : bd15 y1) (k4 : bd15 y2) (k5 : bd15 i) :
    Calls Try.prog 102 #[.agg #[(.int .i64 b0), (.int .i64 b1), (.int .i64 b2), (.int .i64 a1), (.int .i64 a2), (.int .i64 sh)], .agg #[(.int .i64 x1), (.int .i64 x2), (.int .i64 y1), (.int .i64 y2)], (.int .i64 i)] w fun r w' => r = .returned (.tuple #[(.int .i64 (outS b0 b1 b2 a1 a2 sh x1 x2 y1 y2 i)), .agg #[(.int .i64 i), (.int .i64 x1), (.int .i64 (outS b0 b1 b2 a1 a2 sh x1 x2 y1 y2 i)), (.int .i64 y1)]]) ∧ Below w.heap.size w w' := by
  have HR : Hid (∀ W, Calls Try.prog 114 #[.agg #[(.int .i64 b0), (.int .i64 b1), (.int .i64 b2), (.int .i64 a1), (.int .i64 a2), (.int .i64 sh)], .agg #[(.int .i64 x1), (.int .i64 x2), (.int .i64 y1), (.int .i64 y2)], (.int .i64 i)] W fun r w' => r = .returned (.int .i64 (rawF b0 b1 b2 a1 a2 sh x1 x2 y1 y2 i)) ∧ Below W.heap.size W w') := Lib.hid (fun W => raw_any b0 b1 b2 a1 a2 sh x1 x2 y1 y2 i W h0 h1 h2 h3 h4 h5 k1 k2 k3 k4 k5)
  have HL : Hid (∀ W, Calls Try.prog 113 #[(.int .i64 (rawF b0 b1 b2 a1 a2 sh x1 x2 y1 y2 i))] W fun r w' => r = .returned (.int .i64 (outS b0 b1 b2 a1 a2 sh x1 x2 y1 y2 i)) ∧ W = w') := Lib.hid (fun W => limited_any _ W)
  obtain ⟨R, hR⟩ : ∃ R, R = rawF b0 b1 b2 a1 a2 sh x1 x2 y1 y2 i := ⟨_, rfl⟩
  obtain ⟨O, hO⟩ : ∃ O, O = outS b0 b1 b2 a1 a2 sh x1 x2 y1 y2 i := ⟨_, rfl⟩
  rw [← hR] at HR HL
  rw [← hO] at HL ⊢
  clear h0 h1 h2 h3 h4 h5 k1 k2 k3 k4 k5 hR hO
  go_enter Try.func102, Try.ntmps102
  go_wp2_with (first
    | (go_at_call 114; refine (HR.out _).mono ?_; rintro r w1 ⟨rfl, hb1⟩; have HB1 := Lib.hid (show Below w.heap.size w w1 from Below.trans (by (repeat (first | (with_reducible exact Below.refl _ _) | ((with_reducible refine Below.setCell ?_ ?_ _); rotate_left 1; focus (first | (simp; done) | (simp; omega) | (simp at *; omega))) | ((with_reducible refine Below.alloc ?_ ?_ _); rotate_left 1; focus (first | (simp; done) | (simp; omega) | (simp at *; omega))) | (with_reducible refine Below.drew ?_) | ((with_reducible refine Calm.step (by assumption) ?_ ?_); rotate_left 1; focus (first | (simp; done) | (simp; omega) | (simp at *; omega)))))) (hb1.mono (by simp; omega))); have K1 := Lib.hid (show Blk w1 (w.heap.size + 1) #[(.int .i64 x1), (.int .i64 x2), (.int .i64 y1), (.int .i64 y2)] from Blk.below (by (repeat (first | ((with_reducible refine Blk.at_ ?_); focus (first | rfl | (simp; done) | (simp; omega))) | (with_reducible refine Blk.alloc ?_ _) | (with_reducible refine Blk.below ?_ (by with_reducible assumption)) | (with_reducible refine Blk.drew ?_)))) hb1); have K2 := Lib.hid (show Blk w1 (w.heap.size + 1 + 1) #[(.int .i64 0), (.int .i64 0), (.int .i64 0), (.int .i64 0)] from Blk.below (by (repeat (first | ((with_reducible refine Blk.at_ ?_); focus (first | rfl | (simp; done) | (simp; omega))) | (with_reducible refine Blk.alloc ?_ _) | (with_reducible refine Blk.below ?_ (by with_reducible assumption)) | (with_reducible refine Blk.drew ?_)))) hb1); clear hb1)
    | (go_at_call 113; refine (HL.out _).mono ?_; rintro r w2 ⟨rfl, rfl⟩))
  obtain ⟨c0, c1, c2, c3, cl, cf⟩ := K1.out.o4
  have hK2 := K2.out.lt
  refine Calm.tail_below 9 (by kernel_rfl) (by kernel_rfl) ?_
  simp only [List.take_succ_cons, List.take_zero, List.drop_succ_cons, List.drop_zero]
  repeat (first | (apply Calm.op_move; (focus rfl); (focus (first | exact .inl rfl | exact .inr rfl)); (focus ((try simp only [Act.eval, Array.getD_eq_getD_getElem?, List.getElem?_toArray, List.getElem?_cons_succ, List.getElem?_cons_zero, Option.getD_some]); rfl)); (try simp only [Act.put, List.setIfInBounds_toArray, List.set_cons_zero, List.set_cons_succ])) | (apply Calm.op_not; (focus rfl); (try simp only [Act.put, List.setIfInBounds_toArray, List.set_cons_zero, List.set_cons_succ])) | (apply Calm.op; (focus rfl); (focus (intro W hb; obtain ⟨hc, hf⟩ := bcell hb; clear hb hf; go_simp; (try go_bits); (try rfl); done)); (try simp only [Act.put, List.setIfInBounds_toArray, List.set_cons_zero, List.set_cons_succ])))
  refine wpQuiet_nil ?_
  intro w5 hb5
  obtain ⟨hb5c, hb5f⟩ := bcell hb5
  have hb5z := hb5.size
  (try simp at hb5z)
  (try have hb5z0 : w.heap.size < w5.heap.size := by omega)
  (try have hb5z1 : w.heap.size + 1 < w5.heap.size := by omega)
  (try have hb5z2 : w.heap.size + 1 + 1 < w5.heap.size := by omega)
  (try have hb5z3 : w.heap.size + 1 + 1 + 1 < w5.heap.size := by omega)
  (try have hb5z4 : w.heap.size + 1 + 1 + 1 + 1 < w5.heap.size := by omega)
  (try have hb5z5 : w.heap.size + 1 + 1 + 1 + 1 + 1 < w5.heap.size := by omega)
  have HB5 := Lib.hid (HB1.out.trans (hb5.mono HB1.out.size))
  have K25 := K2.out.below hb5
  obtain ⟨d0, d1, d2, d3, dl, df⟩ := K25.o4
  clear hb5 hb5c hb5f c0 c1 c2 c3 cl cf
  go_wp2
  exact bodyPost_ret (v := .tuple #[(.int .i64 O), .agg #[(.int .i64 i), (.int .i64 x1), (.int .i64 O), (.int .i64 y1)]]) (by simp [results, Try.results102, go_sem, *]) rfl ⟨rfl, (((HB5.out.setCell (by simp; omega) _).setCell (by simp; omega) _).setCell (by simp; omega) _).setCell (by simp; omega) _⟩
end Go.Proofs.Ytamldoidalnloaa
