/- Part 9 of the texts of the claim: RelH, Sett, X3, S1, S2. -/
import Derived.Test.YtdeapbihbhoefaaGreatDoorMt6
import Derived.Test.YtdeapbihbhoefaaGreatDoorMt8
import Derived.Test.YtdeapbihbhoefaaGreatDoorMt3
import Derived.Test.YtdeapbihbhoefaaGreatDoorMt4

/- Regions whose order is open, the world turning along any relation S, where what is known of a value may name the values that its operation waited for (RelG with one limb more). No program. -/
namespace Go.Proofs.YtdeapbihbhoefaaGreatDoor.RelH
open Go.RowKit
open Rel (dst puts upd puts_agree puts_put Apart apart_of puts_new put_size puts_size puts_other eval_put_same puts_here wanted_of countP_upd left Ln okB sizeB all_listed listed_Ln some_ready ons)

/-- What is known of the value of an operation: the values of all operations, this one's, the world. -/
abbrev DK := (Nat → Value) → Value → World → Prop
/-- .. it names no value but those that the operation waited for. -/
def Loc (o : Oper) (R : DK) : Prop := ∀ x y : Nat → Value, (∀ e ∈ o.after, Region.binds .any e = true → x e.on = y e.on) → ∀ v W, R x v W → R y v W
def GOK (ops : Array Oper) (Γ : List DK) (o : Oper) : Prop :=
  o.guard = none ∨ ∃ g b t, o.guard = some (g, b) ∧ (∃ e ∈ o.after, Region.binds .any e = true ∧ e.on = g) ∧ dst ops g = some t ∧ Γ[g]? = some (fun _ u _ => u = .bool b)
theorem GOK.mono {ops : Array Oper} {Γ Δ : List DK} {o : Oper} (h : GOK ops Γ o) (hsub : ∀ (g : Nat) (K : DK), Γ[g]? = some K → Δ[g]? = some K) : GOK ops Δ o := by
  rcases h with h | ⟨g, b, t, h1, h2, h3, h4⟩
  · exact .inl h
  · exact .inr ⟨g, b, t, h1, h2, h3, hsub _ _ h4⟩

/-- .. and stays known along S. -/
def Stable (S : World → World → Prop) (R : DK) : Prop := ∀ x v W W', R x v W → S W W' → R x v W'

section
variable {P : Program} {ops : Array Oper} {S : World → World → Prop}

/-- What an operation of the head must show: wherever it comes up. -/
def Ob (S : World → World → Prop) (P : Program) (ops : Array Oper) (n : Nat) (w0 : World) (a0 : Act) (Γ : List DK) (o : Oper) (R : DK) : Prop :=
  ∀ (a : Act) (W : World) (x : Nat → Value), S w0 W → a.tmps.size = a0.tmps.size →
    (∀ e ∈ o.after, Region.binds .any e = true → ∀ t, dst ops e.on = some t → x e.on = a.eval (.tmp t)) →
    (∀ e ∈ o.after, Region.binds .any e = true → ∀ K, Γ[e.on]? = some K → K x (x e.on) W) →
    (∀ t, (∀ j, j < n → dst ops j ≠ some t) → a.eval (.tmp t) = a0.eval (.tmp t)) →
    ∀ (K : Act → World → Prop) (Q : Exit → Act → World → Prop), (∀ v W', R x v W' → S W W' → K (a.put o.dst v) W') → o.wp P a W K Q


/-- The walk in the order of the text: at each operation something that stays known is chosen. -/
def walk (S : World → World → Prop) (P : Program) (ops : Array Oper) (n : Nat) (w0 : World) (a0 : Act) (T : List DK → Prop) : List DK → List Oper → Prop
  | Γ, [] => T Γ
  | Γ, o :: l => ∃ R, Stable S R ∧ Loc o R ∧ GOK ops Γ o ∧ (dst ops Γ.length = o.dst → Ob S P ops n w0 a0 Γ o R) ∧ walk S P ops n w0 a0 T (Γ ++ [R]) l


theorem walk_all {n : Nat} {w0 : World} {a0 : Act} {T : List DK → Prop} : ∀ (l : List Oper) (Γ : List DK), walk S P ops n w0 a0 T Γ l →
    ∃ Δ : List DK, Δ.length = l.length ∧ T (Γ ++ Δ) ∧ ∀ k o, l[k]? = some o → ∃ R, Δ[k]? = some R ∧ Stable S R ∧ Loc o R ∧ GOK ops (Γ ++ Δ.take k) o ∧ (dst ops (Γ.length + k) = o.dst → Ob S P ops n w0 a0 (Γ ++ Δ.take k) o R)
  | [], Γ, h => ⟨[], rfl, by simpa [walk] using h, fun k o hk => by simp at hk⟩
  | o :: l, Γ, h => by
    obtain ⟨R, hs, hlc, hg, hob, hw⟩ := h
    obtain ⟨Δ, hl, hT, hall⟩ := walk_all l _ hw
    refine ⟨R :: Δ, by simp [hl], by simpa using hT, fun k o' hk => ?_⟩
    cases k with
    | zero =>
      obtain rfl : o = o' := by simpa using hk
      exact ⟨R, rfl, hs, hlc, by simpa using hg, by simpa using hob⟩
    | succ k =>
      obtain ⟨R', h1, h2, h2', h3, h4⟩ := hall k o' (by simpa using hk)
      refine ⟨R', by simpa using h1, h2, h2', by simpa using h3, fun hd => ?_⟩
      have := h4 (by rw [← hd]; congr 1; simp; omega)
      simpa using this

theorem Ob.mono {n : Nat} {w0 : World} {a0 : Act} {Γ Δ : List DK} {o : Oper} {R : DK} (h : Ob S P ops n w0 a0 Γ o R) (hsub : ∀ e ∈ o.after, ∀ K, Γ[e.on]? = some K → Δ[e.on]? = some K) : Ob S P ops n w0 a0 Δ o R :=
  fun a W x hb hz hx hd hbase K Q hK => h a W x hb hz hx (fun e he hbd K' hK' => hd e he hbd K' (hsub e he K' hK')) hbase K Q hK

/-- What holds while the head is on its way. -/
structure Inv (S : World → World → Prop) (ops : Array Oper) (n : Nat) (w0 : World) (a0 : Act) (Γ : List DK) (listed : Array Bool) (a : Act) (W : World) : Prop where
  below : S w0 W
  vals : ∃ x : Nat → Value, a = puts ops x (fun j => listed.getD j false) (List.range n) a0 ∧ ∀ j, j < n → listed.getD j false = true → ∀ K, Γ[j]? = some K → K x (x j) W


theorem go (ht' : ∀ a b c, S a b → S b c → S a c) {n : Nat} {Q : Exit → Act → World → Prop} {w0 : World} {a0 : Act} {Γ : List DK} (hok : okB ops n = true) (hsz : sizeB ops n a0.tmps.size = true)
    (hΓ : ∀ k, k < n → ∃ o R, ops[k]? = some o ∧ Γ[k]? = some R ∧ Stable S R ∧ Loc o R ∧ GOK ops Γ o ∧ Ob S P ops n w0 a0 Γ o R)
    (hend : ∀ (x : Nat → Value) (W : World), S w0 W → (∀ j, j < n → ∀ K, Γ[j]? = some K → K x (x j) W) → wpAny P .any ops Q (ops.size - n) (Ln n ops.size) (puts ops x (fun _ => true) (List.range n) a0) W) :
    ∀ (f : Nat) (listed : Array Bool) (a : Act) (W : World), HeadInv .any ops n listed → left n listed = f → Inv S ops n w0 a0 Γ listed a W → wpAny P .any ops Q (f + (ops.size - n)) listed a W := by
  simp only [okB, Bool.and_eq_true, decide_eq_true_eq] at hok
  obtain ⟨⟨⟨⟨⟨hn, hs⟩, hc⟩, _⟩, hap⟩, hback⟩ := hok
  have hap := apart_of hap
  intro f
  induction f with
  | zero =>
    intro listed a W inv hl hI
    obtain ⟨hb, x, rfl, hx⟩ := hI
    have hall := all_listed hl
    rw [Nat.zero_add]
    rw [puts_agree (p' := fun _ => true) (x' := x) (List.range n) a0 (fun j hj => ⟨hall j (List.mem_range.1 hj), fun _ => rfl⟩), listed_Ln inv hl (by omega)]
    exact hend x W hb (fun j hj K hK => hx j hj (hall j hj) K hK)
  | succ f ih =>
    intro listed a W inv hl hI
    have hex : ∃ k, k < n ∧ listed.getD k true = false := by
      apply Classical.byContradiction
      intro hno
      have : left n listed = 0 := List.countP_eq_zero.2 (fun j hj => by
        have hj := List.mem_range.1 hj
        have hjs : j < listed.size := by rw [inv.size]; omega
        cases h : listed.getD j false with
        | true => simp
        | false => exact absurd ⟨j, hj, getD_in hjs h⟩ hno)
      omega
    obtain ⟨k, hk, hun⟩ := hex
    rw [show f + 1 + (ops.size - n) = (f + (ops.size - n)) + 1 by omega]
    refine ⟨fun h0 => ?_, fun i hi => ?_⟩
    · obtain ⟨i, hi⟩ := some_ready inv hback hn (k + 1) k (by omega) hk hun
      rw [h0] at hi
      cases hi
    have hin : i < n := by
      rcases Nat.lt_or_ge i n with h | h
      · exact h
      · exact absurd hi (tail_waits hs hc hn inv _ k rfl hk hun i h)
    obtain ⟨hiun, oi, hoi, hdeps⟩ := mem_ready.1 hi
    obtain ⟨o, R, ho, hR, hst, hlc, hg, hob⟩ := hΓ i hin
    obtain rfl : oi = o := Option.some.inj (hoi.symm.trans ho)
    obtain ⟨hb, x, rfl, hx⟩ := hI
    have hdi : dst ops i = oi.dst := by simp [dst, ho]
    have his : i < listed.size := by rw [inv.size]; omega
    have hif : listed.getD i false = false := getD_both hiun
    have hszt : ∀ j t, j < n → dst ops j = some t → t < a0.tmps.size := fun j t hj hd => by
      have := List.all_eq_true.1 hsz j (List.mem_range.2 hj)
      simpa [hd] using this
    have back : ∀ e ∈ oi.after, Region.binds .any e = true → e.on < i := fun e he hbd => by
      have h1 := List.all_eq_true.1 hback i (List.mem_range.2 (by omega))
      simp only [ho] at h1
      simpa [hbd] using Array.all_eq_true'.1 h1 e he
    unfold wpOp
    simp only [ho]
    have hwant : Region.wanted oi (yielded ops (puts ops x (fun j => listed.getD j false) (List.range n) a0).tmps) = true := by
      rcases hg with hg | ⟨g, b, t, hg, ⟨e, he, hbd, rfl⟩, hd, hK⟩
      · simp [Region.wanted, hg]
      · have hel := hdeps e he hbd
        have hen : e.on < n := by have := back e he hbd; omega
        have h1 := puts_here (x := x) (p := fun j => listed.getD j false) hap hen hel hd (List.range n) a0 (List.nodup_range) (List.mem_range.2 hen) (fun j hj => List.mem_range.1 hj) (hszt _ _ hen hd)
        have h2 : x e.on = .bool b := hx e.on hen hel _ hK
        have h3 : t < (puts ops x (fun j => listed.getD j false) (List.range n) a0).tmps.size := by rw [puts_size]; exact hszt _ _ hen hd
        rw [h2] at h1
        exact wanted_of hg hd h1 h3
    rw [if_pos hwant]
    refine .inl (hob _ W x hb (puts_size _ _) ?_ ?_ ?_ _ _ ?_)
    · intro e he hbd t ht
      have hel := hdeps e he hbd
      have hen : e.on < n := by have := back e he hbd; omega
      rw [puts_here hap hen hel ht (List.range n) a0 (List.nodup_range) (List.mem_range.2 hen) (fun j hj => List.mem_range.1 hj) (hszt _ _ hen ht)]
    · intro e he hbd K hK
      exact hx e.on (by have := back e he hbd; omega) (hdeps e he hbd) K hK
    · intro t ht
      exact puts_other _ _ (fun j hj => ht j (List.mem_range.1 hj))
    · intro v W' hv hb'
      have hget : ∀ j, (listed.setIfInBounds i true).getD j false = upd (fun j => listed.getD j false) i true j := by
        intro j
        by_cases hji : j = i
        · subst hji
          simp [upd, his]
        · rw [getD_set_ne false (Ne.symm hji)]
          simp [upd, hji]
      refine ih _ _ W' (inv.set hi hin) ?_ ⟨ht' _ _ _ hb hb', upd x i v, ?_, ?_⟩
      · have h1 := countP_upd (i := i) (p := fun j => !listed.getD j false) (by simp [hif]) (List.range n) List.nodup_range (List.mem_range.2 hin)
        have h2 : left n (listed.setIfInBounds i true) = (List.range n).countP (upd (fun j => !listed.getD j false) i false) := by
          unfold left
          congr 1
          funext j
          rw [hget j]
          by_cases hji : j = i <;> simp [upd, hji]
        unfold left at hl
        omega
      · rw [← hdi, puts_new hap hin hif (List.range n) a0 List.nodup_range (List.mem_range.2 hin) (fun j hj => List.mem_range.1 hj)]
        exact puts_agree _ _ (fun j _ => ⟨(hget j).symm, fun _ => rfl⟩)
      · intro j hj hlj K hK
        rw [hget j] at hlj
        by_cases hji : j = i
        · subst hji
          obtain rfl : R = K := Option.some.inj (hR.symm.trans hK)
          have h1 : R (upd x j v) v W' := hlc x (upd x j v) (fun e he hbd => by
            have := back e he hbd
            simp [upd, show e.on ≠ j by omega]) v W' hv
          simpa [upd] using h1
        · have e1 : upd x i v j = x j := by simp [upd, hji]
          have e2 : listed.getD j false = true := by simpa [upd, hji] using hlj
          rw [e1]
          obtain ⟨oj, R', hoj', hR', hst', hlc', _⟩ := hΓ j hj
          obtain rfl : R' = K := Option.some.inj (hR'.symm.trans hK)
          refine hlc' x (upd x i v) (fun e he hbd => ?_) _ _ (hst' _ _ _ _ (hx j hj e2 _ hK) hb')
          have h1 := inv.closed j oj hoj' e2 e he hbd
          have h2 : e.on ≠ i := fun h => by rw [h, hif] at h1; cases h1
          simp [upd, h2]

/-- The frame with all values of the head. -/
def fill : List Oper → Nat → (Nat → Value) → Act → Act
  | [], _, _, a => a
  | o :: l, k, x, a => fill l (k + 1) x (a.put o.dst (x k))
theorem fill_puts {x : Nat → Value} : ∀ (l : List Oper) (k : Nat) (a : Act), (∀ j, j < l.length → l[j]? = ops[k + j]?) → fill l k x a = puts ops x (fun _ => true) (List.range' k l.length) a
  | [], _, _, _ => rfl
  | o :: l, k, a, h => by
    have h0 : ops[k]? = some o := by simpa using (h 0 (by simp)).symm
    have hd : dst ops k = o.dst := by simp [dst, h0]
    simp only [fill, List.length_cons, List.range'_succ, puts, if_true, hd]
    exact fill_puts l (k + 1) _ (fun j hj => by have := h (j + 1) (by simp; omega); simpa [Nat.add_assoc, Nat.add_comm 1 j] using this)

/-- ████ The region. -/
theorem region_w (ht' : ∀ a b c, S a b → S b c → S a c) (hdr : ∀ W, S W { W with drawn := W.drawn + 1 }) {Q : Exit → Act → World → Prop} {a : Act} {w : World} {l : List Oper} (n : Nat) (hok : okB l.toArray n = true) (hsz : sizeB l.toArray n a.tmps.size = true)
    (h : walk S P l.toArray n w a (fun (Γ : List DK) => ∀ (x : Nat → Value) (W : World), S w W → (∀ (j : Nat) (K : DK), Γ[j]? = some K → K x (x j) W) → wpList P l.toArray Q (l.drop n) (fill (l.take n) 0 x a) W) [] (l.take n)) :
    wpAny P .any l.toArray Q l.toArray.size (Array.replicate l.toArray.size false) a { w with drawn := w.drawn + 1 } := by
  have hok' := hok
  simp only [okB, Bool.and_eq_true, decide_eq_true_eq] at hok'
  obtain ⟨⟨⟨⟨⟨hn, _⟩, _⟩, hseq⟩, _⟩, hback⟩ := hok'
  have hn' : n < l.length := by simpa using hn
  have htl : (l.take n).length = n := by simp; omega
  obtain ⟨Δ, hlen, hT, hall⟩ := walk_all _ _ h
  rw [List.nil_append] at hT
  rw [htl] at hlen
  have hget : ∀ k, k < n → (l.take n)[k]? = l.toArray[k]? := fun k hk => by simp [List.getElem?_take, hk]
  have hΓ : ∀ k, k < n → ∃ o R, l.toArray[k]? = some o ∧ Δ[k]? = some R ∧ Stable S R ∧ Loc o R ∧ GOK l.toArray Δ o ∧ Ob S P l.toArray n w a Δ o R := by
    intro k hk
    obtain ⟨o, ho⟩ : ∃ o, l.toArray[k]? = some o := ⟨_, Array.getElem?_eq_getElem (by simp; omega)⟩
    obtain ⟨R, h1, h2, h2', h3, h4⟩ := hall k o (by rw [hget k hk, ho])
    rw [List.nil_append] at h3
    refine ⟨o, R, ho, h1, h2, h2', h3.mono (fun g K hK => by
      rw [List.getElem?_take] at hK
      split at hK
      · exact hK
      · cases hK), (h4 (by simp only [List.length_nil, Nat.zero_add]; simp [dst, ho])).mono fun e he K hK => ?_⟩
    rw [List.nil_append] at hK
    rw [List.getElem?_take] at hK
    split at hK
    · exact hK
    · cases hK
  have inv0 : HeadInv .any l.toArray n (Array.replicate l.toArray.size false) :=
    ⟨by simp, fun j oj _ hl => (by rw [getD_replicate_false] at hl; cases hl), fun t _ ht => getD_in (by simpa using ht) (getD_replicate_false _ _)⟩
  have hleft : left n (Array.replicate l.toArray.size false) = n := by
    unfold left
    rw [List.countP_eq_length.2 (fun j _ => by rw [getD_replicate_false]; rfl), List.length_range]
  have hputs : ∀ x, puts l.toArray x (fun _ => true) (List.range n) a = fill (l.take n) 0 x a := fun x => by
    rw [fill_puts (ops := l.toArray) (l.take n) 0 a (fun j hj => by rw [htl] at hj; rw [hget j hj, Nat.zero_add]), htl, List.range_eq_range']
  have H := go ht' (P := P) (Q := Q) (w0 := w) (a0 := a) hok hsz hΓ (fun x W hb hx => by
    have hdl : (l.drop n).length = l.toArray.size - n := by simp
    have := wpAny_of_seq (md := .any) (Q' := Q) (ops := l.toArray) (P := P) (l.drop n) n (Ln n l.toArray.size) (fill (l.take n) 0 x a) W (fun j => by simp [List.getElem?_drop]) (by rw [hdl]; exact hseq)
      (hT x W hb (fun j K hK => hx j (by
        have := (List.getElem?_eq_some_iff.1 hK).1
        omega) K hK))
    rw [hputs x, ← hdl]
    exact this) n _ a { w with drawn := w.drawn + 1 } inv0 hleft ⟨hdr w, fun _ => undef, by
      rw [puts_agree (p' := fun _ => false) (x' := fun _ => undef) (List.range n) a (fun j _ => ⟨getD_replicate_false _ _, fun _ => rfl⟩)]
      exact (show ∀ (L : List Nat) (b : Act), b = puts l.toArray (fun _ => undef) (fun _ => false) L b from fun L => by
        induction L with
        | nil => intro b; rfl
        | cons j L ih => intro b; unfold puts; simpa using ih b) _ _, fun j _ hl => by rw [getD_replicate_false] at hl; cases hl⟩
  have e : n + (l.toArray.size - n) = l.toArray.size := by omega
  rw [e] at H
  exact H
end

abbrev Ctx := List (Option Tmp × DK)
def dep1 (x : Nat → Value) (j : Nat) : Option (Option Tmp × DK) → Act → World → Prop
  | some (some t, K), a, W => x j = a.eval (.tmp t) ∧ K x (a.eval (.tmp t)) W
  | _, _, _ => True
def deps (x : Nat → Value) (Γ : Ctx) (a : Act) (W : World) : List Nat → Prop
  | [] => True
  | j :: js => dep1 x j Γ[j]? a W ∧ deps x Γ a W js
theorem deps_of {x : Nat → Value} {Γ : Ctx} {a : Act} {W : World} : ∀ (js : List Nat), (∀ j ∈ js, dep1 x j Γ[j]? a W) → deps x Γ a W js
  | [], _ => trivial
  | j :: js, h => ⟨h j (by simp), deps_of js (fun k hk => h k (by simp [hk]))⟩
def facts (x : Nat → Value) (W : World) : Nat → Ctx → Prop
  | _, [] => True
  | k, (_, K) :: l => K x (x k) W ∧ facts x W (k + 1) l
theorem facts_of {x : Nat → Value} {W : World} : ∀ (l : Ctx) (k : Nat), (∀ (j : Nat) (K : DK), (l.map (·.2))[j]? = some K → K x (x (k + j)) W) → facts x W k l
  | [], _, _ => trivial
  | (d, K) :: l, k, h => ⟨h 0 K rfl, facts_of l (k + 1) (fun j K' hj => by have := h (j + 1) K' (by simpa using hj); rw [show k + 1 + j = k + (j + 1) by omega]; exact this)⟩
def GOK3 (Γ : Ctx) (o : Oper) : Prop := o.guard = none ∨ ∃ g b t, o.guard = some (g, b) ∧ g ∈ ons o ∧ Γ[g]? = some (some t, fun _ u _ => u = .bool b)
theorem gno {Γ : Ctx} {o : Oper} (h : o.guard = none) : GOK3 Γ o := .inl h
def Ob3 (S : World → World → Prop) (P : Program) (DS : List Tmp) (w0 : World) (a0 : Act) (Γ : Ctx) (o : Oper) (R : DK) : Prop :=
  ∀ (a : Act) (W : World) (x : Nat → Value), S w0 W → deps x Γ a W (ons o) → (∀ t, t ∉ DS → a.eval (.tmp t) = a0.eval (.tmp t)) →
    ∀ (K : Act → World → Prop) (Q : Exit → Act → World → Prop), (∀ v W', R x v W' → S W W' → K (a.put o.dst v) W') → o.wp P a W K Q

def walk3 (S : World → World → Prop) (P : Program) (DS : List Tmp) (w0 : World) (a0 : Act) (T : Ctx → Prop) : Ctx → List Oper → Prop
  | Γ, [] => T Γ
  | Γ, o :: l => ∃ R, Stable S R ∧ Loc o R ∧ GOK3 Γ o ∧ Ob3 S P DS w0 a0 Γ o R ∧ walk3 S P DS w0 a0 T (Γ ++ [(o.dst, R)]) l
theorem walk_of_walk3 {S : World → World → Prop} {P : Program} {ops : Array Oper} {n : Nat} {DS : List Tmp} {w0 : World} {a0 : Act} {T : Ctx → Prop} {T' : List DK → Prop} (hDS : ∀ t, t ∉ DS → ∀ j, j < n → dst ops j ≠ some t)
    (hT : ∀ Γ, T Γ → T' (Γ.map (·.2))) :
    ∀ (l : List Oper) (Γ : Ctx), (∀ j, j < l.length → l[j]? = ops[Γ.length + j]?) → (∀ j d R, Γ[j]? = some (d, R) → dst ops j = d) → walk3 S P DS w0 a0 T Γ l → walk S P ops n w0 a0 T' (Γ.map (·.2)) l
  | [], Γ, _, _, h => hT Γ h
  | o :: l, Γ, hl, hΓ, h => by
    obtain ⟨R, hs, hlc, hg, hob, hw⟩ := h
    have h0 : ops[Γ.length]? = some o := by simpa using (hl 0 (by simp)).symm
    have hg' : GOK ops (Γ.map (·.2)) o := by
      rcases hg with hg | ⟨g, b, t, hg, hin, hΓg⟩
      · exact .inl hg
      · obtain ⟨e, he, rfl⟩ := List.mem_map.1 hin
        obtain ⟨he1, he2⟩ := List.mem_filter.1 he
        exact .inr ⟨e.on, b, t, hg, ⟨e, by simpa using he1, he2, rfl⟩, hΓ _ _ _ hΓg, by simp [hΓg]⟩
    refine ⟨R, hs, hlc, hg', fun _ => ?_, ?_⟩
    · intro a W x hb hz hx hd hbase K Q hK
      refine hob a W x hb (deps_of _ fun j hj => ?_) (fun t ht => hbase t (fun j hj => hDS t ht j hj)) K Q hK
      obtain ⟨e, he, rfl⟩ := List.mem_map.1 hj
      obtain ⟨he1, he2⟩ := List.mem_filter.1 he
      have he' : e ∈ o.after := by simpa using he1
      cases hc : Γ[e.on]? with
      | none => trivial
      | some c =>
        obtain ⟨d, K'⟩ := c
        cases d with
        | none => trivial
        | some t =>
          have h1 := hx e he' he2 t (hΓ _ _ _ hc)
          have h2 := hd e he' he2 K' (by simp [hc])
          exact ⟨h1, h1 ▸ h2⟩
    · have := walk_of_walk3 hDS hT l (Γ ++ [(o.dst, R)]) (fun j hj => by
        have := hl (j + 1) (by simp; omega)
        simpa [Nat.add_assoc, Nat.add_comm 1 j] using this) (fun j d R' hj => by
        rcases Nat.lt_or_ge j Γ.length with h | h
        · rw [List.getElem?_append_left h] at hj
          exact hΓ j d R' hj
        · have hjl : j < (Γ ++ [(o.dst, R)]).length := (List.getElem?_eq_some_iff.1 hj).1
          obtain rfl : j = Γ.length := by simp at hjl; omega
          simp at hj
          rw [← hj.1]
          simp [dst, h0]) hw
      simpa using this

theorem region3_w {S : World → World → Prop} (ht' : ∀ a b c, S a b → S b c → S a c) (hdr : ∀ W, S W { W with drawn := W.drawn + 1 }) {P : Program} {Q : Exit → Act → World → Prop} {a : Act} {w : World} {l : List Oper} (n : Nat) (hok : okB l.toArray n = true) (hsz : sizeB l.toArray n a.tmps.size = true)
    (h : walk3 S P ((l.take n).filterMap (·.dst)) w a (fun Γ => ∀ (x : Nat → Value) (W : World), S w W → facts x W 0 Γ → wpList P l.toArray Q (l.drop n) (fill (l.take n) 0 x a) W) [] (l.take n)) :
    wpAny P .any l.toArray Q l.toArray.size (Array.replicate l.toArray.size false) a { w with drawn := w.drawn + 1 } := by
  have hn' : n < l.length := by
    simp only [okB, Bool.and_eq_true, decide_eq_true_eq] at hok
    simpa using hok.1.1.1.1.1
  have htl : (l.take n).length = n := by simp; omega
  refine region_w ht' hdr n hok hsz (walk_of_walk3 (n := n) (fun t ht j hj hd => ht ?_) (fun Γ hT x W hb hx => hT x W hb (facts_of Γ 0 (fun j K hj => by rw [Nat.zero_add]; exact hx j K hj))) (l.take n) [] (fun j hj => by
      rw [htl] at hj
      simp [List.getElem?_take, hj]) (fun j d R hj => by simp at hj) h)
  have hlj : j < l.length := by omega
  simp [dst, hlj] at hd
  exact List.mem_filterMap.2 ⟨l[j], List.mem_iff_getElem.2 ⟨j, by omega, by simp⟩, hd⟩
theorem region3 {S : World → World → Prop} (ht' : ∀ a b c, S a b → S b c → S a c) (hdr : ∀ W, S W { W with drawn := W.drawn + 1 }) {P : Program} {id : Nat} {Q : Exit → Act → World → Prop} {a : Act} {w : World} {l : List Oper} (n : Nat) (hm : P.follows .mixedOrders = true) (hok : okB l.toArray n = true) (hsz : sizeB l.toArray n a.tmps.size = true)
    (h : walk3 S P ((l.take n).filterMap (·.dst)) w a (fun Γ => ∀ (x : Nat → Value) (W : World), S w W → facts x W 0 Γ → wpList P l.toArray Q (l.drop n) (fill (l.take n) 0 x a) W) [] (l.take n)) :
    (Code.region id l.toArray true).wp P Q a w := wp_region_any hm (region3_w ht' hdr n hok hsz h)
section
variable {S : World → World → Prop} {P : Program} {DS : List Tmp} {w0 : World} {a0 : Act} {T : Ctx → Prop} {Γ : Ctx} {o : Oper} {rest : List Oper}

theorem loc_const {o : Oper} {R : Value → World → Prop} : Loc o (fun _ => R) := fun _ _ _ _ _ h => h
theorem op3 (hr : ∀ W, S W W) (v : Value) (hg : GOK3 Γ o) (h : ∀ (a : Act) (W : World) (x : Nat → Value), S w0 W → deps x Γ a W (ons o) → (∀ t, t ∉ DS → a.eval (.tmp t) = a0.eval (.tmp t)) → (execOp a.eval o).run P W = .ok (.value v) W)
    (hn : walk3 S P DS w0 a0 T (Γ ++ [(o.dst, fun _ u _ => u = v)]) rest) : walk3 S P DS w0 a0 T Γ (o :: rest) :=
  ⟨_, fun _ _ _ _ h _ => h, loc_const, hg, fun a W x hb hd hbase K Q hK => by
    unfold Oper.wp
    rw [h a W x hb hd hbase]
    exact hK v W rfl (hr W), hn⟩
/-- One operation that yields a value, and may turn the world. -/
theorem opW3 (R : DK) (hs : Stable S R) (hl : Loc o R) (hg : GOK3 Γ o)
    (h : ∀ (a : Act) (W : World) (x : Nat → Value), S w0 W → deps x Γ a W (ons o) → (∀ t, t ∉ DS → a.eval (.tmp t) = a0.eval (.tmp t)) → ∃ v W', (execOp a.eval o).run P W = .ok (.value v) W' ∧ R x v W' ∧ S W W')
    (hn : walk3 S P DS w0 a0 T (Γ ++ [(o.dst, R)]) rest) : walk3 S P DS w0 a0 T Γ (o :: rest) :=
  ⟨R, hs, hl, hg, fun a W x hb hd hbase K Q hK => by
    obtain ⟨v, W', hrun, hR, hS⟩ := h a W x hb hd hbase
    unfold Oper.wp
    rw [hrun]
    exact hK v W' hR hS, hn⟩
/-- An append. -/
theorem app3 (R : DK) (hs : Stable S R) (hl : Loc o R) (s y : Operand) (t : TypeId) (hop : o.op = .call { callee := .builtin .append, args := #[s, y], argTypes := #[t, t] }) (hg : GOK3 Γ o)
    (h : ∀ (a : Act) (W : World) (x : Nat → Value), S w0 W → deps x Γ a W (ons o) → (∀ t, t ∉ DS → a.eval (.tmp t) = a0.eval (.tmp t)) → ∃ v W', (Builtin.append_ #[t, t] o.type #[a.eval s, a.eval y]).run P W = .ok v W' ∧ R x v W' ∧ S W W')
    (hn : walk3 S P DS w0 a0 T (Γ ++ [(o.dst, R)]) rest) : walk3 S P DS w0 a0 T Γ (o :: rest) :=
  ⟨R, hs, hl, hg, fun a W x hb hd hbase K Q hK => by
    obtain ⟨v, W', hrun, hR, hS⟩ := h a W x hb hd hbase
    unfold Oper.wp
    simp [execOp, hop, resolve, invoke, builtin, hrun, Result.andThen]
    exact hK v W' hR hS, hn⟩
theorem done3 (h : T Γ) : walk3 S P DS w0 a0 T Γ [] := h
end
end Go.Proofs.YtdeapbihbhoefaaGreatDoor.RelH

/- Worlds that turn in rows of their own alone, each of them at one index to one value; an append onto a row that the region itself made. No program. -/
namespace Go.Proofs.YtdeapbihbhoefaaGreatDoor
open Go.RowKit
open Calm (bcell Blk)
/-- below B nothing turns; a block from B on is as it was, or has x at its index n. -/
structure Sett (n : Nat) (x : Value) (B : Nat) (W W' : World) : Prop where
  below : Below B W W'
  row : ∀ g, B ≤ g → g < W.heap.size → W'.heap[g]? = W.heap[g]? ∨ ∃ cur t, W.heap[g]? = some (.cells cur t (0, 0)) ∧ W'.heap[g]? = some (.cells (cur.setIfInBounds n x) t (0, 0))
theorem Sett.refl {n : Nat} {x : Value} {B : Nat} (W : World) : Sett n x B W W := ⟨Below.refl _ _, fun _ _ _ => .inl rfl⟩
theorem set_twice (cur : Array Value) (n : Nat) (x : Value) : (cur.setIfInBounds n x).setIfInBounds n x = cur.setIfInBounds n x := by
  apply Array.ext
  · simp
  · intro i h1 h2
    simp [Array.getElem_setIfInBounds]
theorem Sett.trans {n : Nat} {x : Value} {B : Nat} (a b c : World) (h : Sett n x B a b) (h' : Sett n x B b c) : Sett n x B a c := by
  refine ⟨h.below.trans h'.below, fun g hg hl => ?_⟩
  have hl' : g < b.heap.size := Nat.lt_of_lt_of_le hl h.below.size
  rcases h'.row g hg hl' with e' | ⟨cur', t', e1', e2'⟩
  · rcases h.row g hg hl with e | ⟨cur, t, e1, e2⟩
    · exact .inl (e'.trans e)
    · exact .inr ⟨cur, t, e1, e'.trans e2⟩
  · rcases h.row g hg hl with e | ⟨cur, t, e1, e2⟩
    · exact .inr ⟨cur', t', e.symm.trans e1', e2'⟩
    · rw [e2] at e1'
      cases e1'
      exact .inr ⟨cur, _, e1, by rw [e2', set_twice]⟩
theorem Sett.drawn {n : Nat} {x : Value} {B : Nat} (W : World) : Sett n x B W { W with drawn := W.drawn + 1 } := ⟨⟨rfl, rfl, rfl, Nat.le_refl _, fun _ _ => rfl⟩, fun _ _ _ => .inl rfl⟩
theorem Sett.of {n : Nat} {x : Value} {B : Nat} {W W' : World} (h : Below W.heap.size W W') (hB : B ≤ W.heap.size) : Sett n x B W W' := ⟨h.mono hB, fun g _ hl => .inl (h.block g hl)⟩
theorem Sett.ofGe {n : Nat} {x : Value} {w0 W W' : World} (hS : Sett n x w0.heap.size w0 W) (h : Below W.heap.size W W') : Sett n x w0.heap.size W W' := Sett.of h hS.below.size
theorem take_set_list (l : List Value) (m n : Nat) (x : Value) : (l.set n x).take m = (l.take m).set n x := List.take_set
theorem ownsRow_sett {n : Nat} {x : Value} {B : Nat} {W W' : World} {e m : Nat} {v : Value} {ys : List Value} (h : W.ownsRow B e 1 v m ys) (hS : Sett n x B W W') (hy : ys.set n x = ys) : W'.ownsRow B e 1 v m ys := by
  refine ⟨h.1, ?_⟩
  rcases h.2 with h2 | ⟨g, cap, cur, h1, h2, h3, h4, h5, h6, h7⟩
  · exact .inl h2
  · refine .inr ?_
    rcases hS.row g h2 (Array.getElem?_eq_some_iff.1 h3).1 with e1 | ⟨cur', t, e1, e2⟩
    · exact ⟨g, cap, cur, h1, h2, e1.trans h3, h4, h5, h6, h7⟩
    · rw [h3] at e1
      cases e1
      refine ⟨g, cap, _, h1, h2, e2, h4, h5, by simpa using h6, ?_⟩
      rw [Array.toList_setIfInBounds, take_set_list, h7, hy]
theorem Blk.sett {n : Nat} {x : Value} {B : Nat} {W W' : World} {g : Nat} {cs : Array Value} (h : Calm.Blk W g cs) (hS : Sett n x B W W') (hg : B ≤ g) (hy : cs.setIfInBounds n x = cs) : Calm.Blk W' g cs := by
  rcases hS.row g hg h.lt with e1 | ⟨cur, t, e1, e2⟩
  · exact ⟨Nat.lt_of_lt_of_le h.lt hS.below.size, fun i => (World.cell?_of_block (w := W) (a := ⟨g, i, none⟩) e1).trans (h.c i), fun i => (World.frozen?_of_block (w := W) (a := ⟨g, i, none⟩) e1).trans (h.f i)⟩
  · refine ⟨Nat.lt_of_lt_of_le h.lt hS.below.size, fun i => ?_, fun i => ?_⟩
    · have h1 : cur[i]? = cs[i]? := by rw [← h.c i, cell_of_row W g i cur t _ e1]
      rw [cell_of_row W' g i _ t _ e2, Array.getElem?_setIfInBounds]
      have h2 : (cs.setIfInBounds n x)[i]? = cs[i]? := by rw [hy]
      rw [Array.getElem?_setIfInBounds] at h2
      have hsz : (n < cur.size) = (n < cs.size) := by
        have h3 : cur[n]? = cs[n]? := by rw [← h.c n, cell_of_row W g n cur t _ e1]
        apply propext
        constructor
        · intro hh
          rw [Array.getElem?_eq_getElem hh] at h3
          exact (Array.getElem?_eq_some_iff.1 h3.symm).1
        · intro hh
          rw [Array.getElem?_eq_getElem hh] at h3
          exact (Array.getElem?_eq_some_iff.1 h3).1
      split
      · rename_i hni
        rw [if_pos hni] at h2
        split
        · rename_i hlt
          rw [if_pos (by rw [← hsz]; exact hlt)] at h2
          exact h2
        · rename_i hlt
          rw [if_neg (by rw [← hsz]; exact hlt)] at h2
          exact h2
      · exact h1
    · have h1 := h.f i
      unfold World.frozen? at h1 ⊢
      simp only [e1] at h1
      simp only [e2]
      exact h1
/-- One value appended onto a row of the region's own. -/
theorem append_sett {P : Program} (B : Nat) (t ty e : TypeId) (i : TypeInfo) (z : Value) (bytes : Nat) (ht : P.underlying t = some (.slice e)) (hi : P.info? e = some i) (hz : i.zero = some z) (hsize : i.size = 1) (hby : i.bytes = bytes) (hzs : z.cells.size = 1)
    (u : Value) (n : Nat) (xs : List Value) (x : Value) (h1 : x.oneCell' = true) (W : World) (hown : W.ownsRow B e 1 u n xs) (hb : B ≤ W.heap.size) (h63 : n + 1 ≤ maxLen) (hbytes : (n + 1) * bytes ≤ 140737488355328) (b c : Nat) (hx : W.cell? ⟨b, 0, none⟩ = some x) :
    ∃ v' W', (Builtin.append_ #[t, t] ty #[u, .slice (some ⟨b, 0, none⟩) 1 c]).run P W = .ok v' W' ∧ W'.ownsRow B e 1 v' (n + 1) (xs ++ [x]) ∧ Sett n x B W W' := by
  have hadd : ∀ j v, [x][j]? = some v → W.cell? ((⟨b, 0, none⟩ : Addr).add j) = some v := by
    intro j v hj
    match j, hj with
    | 0, hj => simp at hj; subst hj; simpa [Addr.add] using hx
  have hone : ∀ v ∈ [x], v.oneCell' = true := fun v hv => by simp at hv; subst hv; exact h1
  obtain ⟨v', W', r1, r2, r3, _, r5⟩ := run_append_own_at (P := P) W B t ty e i z 1 bytes ht hi hz hsize hby hzs (by decide) u n xs hown ⟨b, 0, none⟩ 1 c [x] rfl hadd hone h63 hbytes hb
  refine ⟨v', W', r1, r2, ?_⟩
  rcases hown.2 with ⟨hu, hn0⟩ | ⟨g, cap, cur, hu, hbg, hg, hnc, hcm, hcs, htake⟩
  · have hun : u.ownBlock = none := by rw [hu]; rfl
    rw [hun] at r3
    exact Sett.of ⟨r3.os, r3.tape, r3.output, r3.size, fun k hk => r3.block k hk (by simp)⟩ hb
  · have hun : u.ownBlock = some g := by rw [hu]; rfl
    by_cases hroom : n + 1 ≤ cap
    · have hrun := run_append_room (P := P) W t ty e i ht hi g n cap cur hg ⟨b, 0, none⟩ 1 c [x] (by rw [hsize]; rfl) hadd hone hroom (by rw [hsize, hcs]; simp; omega)
      rw [hsize, Nat.mul_one, show n + [x].length = n + 1 from rfl, ← hu, r1] at hrun
      injection hrun with q1 q2
      have hh := setRow_heap W g cur (cur.toList.take n ++ [x] ++ cur.toList.drop (n + 1)).toArray e (0, 0) hg
      rw [← q2] at hh
      have hset : (cur.toList.take n ++ [x] ++ cur.toList.drop (n + 1)).toArray = cur.setIfInBounds n x := by
        apply Array.toList_inj.1
        rw [Array.toList_setIfInBounds, List.set_eq_take_append_cons_drop]
        rw [if_pos (by simp; omega)]
        simp
      rw [hset] at hh
      refine ⟨⟨r3.os, r3.tape, r3.output, r3.size, fun k hk => r3.block k (by omega) (by rw [hun]; simp; omega)⟩, fun k hk hl => ?_⟩
      by_cases hkg : k = g
      · subst hkg
        exact .inr ⟨cur, e, hg, hh⟩
      · exact .inl (r3.block k hl (by rw [hun]; simpa using hkg))
    · have hcell : ∀ j v, xs[j]? = some v → W.cell? ((⟨g, 0, none⟩ : Addr).add j) = some v := hown.cells (g := g) (by rw [hun])
      have hgr := run_append_grow (P := P) W t ty e i z ht hi hz ⟨g, 0, none⟩ n cap xs (by rw [hown.1, hsize]) hcell ⟨b, 0, none⟩ 1 c [x] (by rw [hsize]; rfl) hadd (by omega) (by simp only [maxLen] at h63; omega) (growslice_fits (by omega) (by rw [hby]; exact hbytes))
      rw [← hu, r1] at hgr
      injection hgr with q1 q2
      have hW : ∀ k, k < W.heap.size → W'.heap[k]? = W.heap[k]? := fun k hk => by rw [q2]; exact Below.heap_alloc _ _ _ hk
      exact Sett.of ⟨r3.os, r3.tape, r3.output, r3.size, hW⟩ hb
namespace RelH
open Rel (ons)
variable {S : World → World → Prop} {P : Program} {DS : List Tmp} {w0 : World} {a0 : Act} {U : Ctx → Prop} {Γ : Ctx} {o : Oper} {rest : List Oper}
/-- A call, by a contract. -/
theorem callR3 (R : DK) (hs : Stable S R) (hl : Loc o R) (hof : ∀ W W', S w0 W → Below W.heap.size W W' → S W W') (hg : GOK3 Γ o)
    (h : ∀ (a : Act) (W : World) (x : Nat → Value), S w0 W → deps x Γ a W (ons o) → (∀ t, t ∉ DS → a.eval (.tmp t) = a0.eval (.tmp t)) → ∃ f args, (execOp a.eval o).run P W = .ok (.enter f args) W ∧ Calls P f args W fun e W' => ∃ v, e = .returned v ∧ R x v W' ∧ Below W.heap.size W W')
    (hn : walk3 S P DS w0 a0 U (Γ ++ [(o.dst, R)]) rest) : walk3 S P DS w0 a0 U Γ (o :: rest) :=
  ⟨R, hs, hl, hg, fun a W x hb hd hbase K Q hK => by
    obtain ⟨f, args, hrun, hc⟩ := h a W x hb hd hbase
    unfold Oper.wp
    rw [hrun]
    simp only [Oper.upon]
    refine hc.mono ?_
    rintro e W' ⟨v, rfl, hR, hbb⟩
    exact hK v W' hR (hof W W' hb hbb), hn⟩
/-- One operation that only reads, of whose result R is known. -/
theorem opR3 (hr : ∀ W, S W W) (R : DK) (hs : Stable S R) (hl : Loc o R) (hg : GOK3 Γ o)
    (h : ∀ (a : Act) (W : World) (x : Nat → Value), S w0 W → deps x Γ a W (ons o) → (∀ t, t ∉ DS → a.eval (.tmp t) = a0.eval (.tmp t)) → ∃ v, (execOp a.eval o).run P W = .ok (.value v) W ∧ R x v W)
    (hn : walk3 S P DS w0 a0 U (Γ ++ [(o.dst, R)]) rest) : walk3 S P DS w0 a0 U Γ (o :: rest) :=
  opW3 R hs hl hg (fun a W x hb hd hbase => by
    obtain ⟨v, h1, h2⟩ := h a W x hb hd hbase
    exact ⟨v, W, h1, h2, hr W⟩) hn
end RelH
end Go.Proofs.YtdeapbihbhoefaaGreatDoor

/- (search).visit where nothing is left to visit: the louder of what is best so far and a list. -/
namespace Go.Proofs.YtdeapbihbhoefaaGreatDoor
open Go.RowKit
open Calm (bcell Blk)

/-- all that lay is as it was, but for one block. -/
structure But (sb : Nat) (w w' : World) : Prop where
  os : w'.os = w.os
  tape : w'.tape = w.tape
  output : w'.output = w.output
  size : w.heap.size ≤ w'.heap.size
  block : ∀ k, Rest sb w.heap.size k → w'.heap[k]? = w.heap[k]?
theorem But.refl (sb : Nat) (w : World) : But sb w w := ⟨rfl, rfl, rfl, Nat.le_refl _, fun _ _ => rfl⟩
theorem But.trans {sb : Nat} {a b c : World} (h : But sb a b) (k : But sb b c) : But sb a c :=
  ⟨k.os.trans h.os, k.tape.trans h.tape, k.output.trans h.output, Nat.le_trans h.size k.size, fun i hi => (k.block i ⟨Nat.lt_of_lt_of_le hi.1 h.size, hi.2⟩).trans (h.block i hi)⟩
theorem But.of {sb : Nat} {w w' : World} (h : Below w.heap.size w w') : But sb w w' := ⟨h.os, h.tape, h.output, h.size, fun k hk => h.block k hk.1⟩
theorem But.drawn {sb : Nat} (w : World) : But sb w { w with drawn := w.drawn + 1 } := ⟨rfl, rfl, rfl, Nat.le_refl _, fun _ _ => rfl⟩
theorem But.put {sb : Nat} (w : World) (i : Nat) (v : Value) : But sb w (w.setCell ⟨sb, i, none⟩ v) := ⟨rfl, rfl, rfl, by simp [World.setCell], fun k hk => Below.heap_setCell _ _ _ _ hk.2⟩
theorem But.below {sb B : Nat} {w w' : World} (h : But sb w w') (h1 : B ≤ sb) (h2 : B ≤ w.heap.size) : Below B w w' := ⟨h.os, h.tape, h.output, h.size, fun k hk => h.block k ⟨by omega, by omega⟩⟩
theorem Cells.but {w w' : World} {A : Option Addr} {zs : List Int} {sb : Nat} (h : Cells w A zs) (ho : Off sb A) (hW : But sb w w') : Cells w' A zs := h.rest ho hW.block
theorem Lim.but {w w' : World} {sb : Nat} (h : Lim w) (hs : sb ≠ 0) (hW : But sb w w') : Lim w' := h.rest hs hW.block
theorem blk_but {w w' : World} {g sb : Nat} {cs : Array Value} (h : Blk w g cs) (hg : g ≠ sb) (hW : But sb w w') : Blk w' g cs := h.of_block (hW.block g ⟨h.lt, hg⟩)

/-- the louder of what is best so far and a list. -/
def updB (b : Option (List Int)) (l : List Int) : Option (List Int) := match b with
  | none => some l
  | some b' => if enF b' < enF l then some l else some b'
/-- the best list of all that n further outputs make. -/
def visF (lk ht rc : Int) (ts ls : List Int) : Nat → List Int → St → Option (List Int) → Option (List Int)
  | 0, l, _, b => updB b l
  | n + 1, l, s, b => (keptK lk ht rc ts s ls ls.length).foldl (fun b x => visF lk ht rc ts ls n (l ++ [x.1]) x.2 b) b
theorem own_room {w : World} {base size n c : Nat} {e : TypeId} {A : Option Addr} {xs : List Value} (h : w.ownsRow base e size (.slice A n c) n xs) : n ≤ c ∧ c ≤ maxLen := by
  rcases h.2 with ⟨h1, h2⟩ | ⟨g, cap, cur, h1, _, _, h2, h3, _⟩
  · cases h1
    exact ⟨Nat.le_refl _, Nat.zero_le _⟩
  · cases h1
    exact ⟨h2, h3⟩
/-- a search, in its block. -/
def SB (lk ht rc : Int) (A1 A2 A5 : Option Addr) (M c1 L c2 N c5 : Nat) (sb : Nat) (b : Option (List Int)) (w : World) : Prop :=
  ∃ B d, Blk w sb #[(.int .i64 lk), (.int .i64 ht), .slice A1 M c1, (.int .i64 rc), .slice A2 L c2, .slice A5 N c5, .slice B (b.getD []).length d, (.int .i64 (enF (b.getD []))), .bool b.isSome] ∧ Cells w B (b.getD []) ∧ Off sb B ∧ (b.getD []).length ≤ d ∧ d ≤ maxLen
theorem SB.of {lk ht rc : Int} {A1 A2 A5 : Option Addr} {M c1 L c2 N c5 sb : Nat} {b : Option (List Int)} {w w' : World} (h : SB lk ht rc A1 A2 A5 M c1 L c2 N c5 sb b w) (hb : Below w.heap.size w w') : SB lk ht rc A1 A2 A5 M c1 L c2 N c5 sb b w' := by
  obtain ⟨B, d, h1, h2, h3⟩ := h
  exact ⟨B, d, h1.below hb, h2.below hb, h3⟩

/-- worlds that turn in one block alone, in its cells 6 and 7. -/
structure SetR (sb n : Nat) (l : List Int) (E : Int) (W W' : World) : Prop where
  but : But sb W W'
  rest : ∀ i, i ≠ 6 → i ≠ 7 → W'.cell? ⟨sb, i, none⟩ = W.cell? ⟨sb, i, none⟩
  fr : ∀ i, W'.frozen? ⟨sb, i, none⟩ = W.frozen? ⟨sb, i, none⟩
  c6 : W'.cell? ⟨sb, 6, none⟩ = W.cell? ⟨sb, 6, none⟩ ∨ ∃ B d, W'.cell? ⟨sb, 6, none⟩ = some (.slice B n d) ∧ Cells W' B l ∧ Off sb B ∧ n ≤ d ∧ d ≤ maxLen
  c7 : W'.cell? ⟨sb, 7, none⟩ = W.cell? ⟨sb, 7, none⟩ ∨ W'.cell? ⟨sb, 7, none⟩ = some (.int .i64 E)
theorem SetR.refl {sb n : Nat} {l : List Int} {E : Int} (W : World) : SetR sb n l E W W := ⟨But.refl _ _, fun _ _ _ => rfl, fun _ => rfl, .inl rfl, .inl rfl⟩
theorem SetR.trans {sb n : Nat} {l : List Int} {E : Int} (a b c : World) (h : SetR sb n l E a b) (k : SetR sb n l E b c) : SetR sb n l E a c := by
  refine ⟨h.but.trans k.but, fun i h1 h2 => (k.rest i h1 h2).trans (h.rest i h1 h2), fun i => (k.fr i).trans (h.fr i), ?_, ?_⟩
  · rcases k.c6 with e | e
    · rcases h.c6 with e' | ⟨B, d, e1, e2, e3⟩
      · exact .inl (e.trans e')
      · exact .inr ⟨B, d, e.trans e1, e2.but e3.1 k.but, e3⟩
    · exact .inr e
  · rcases k.c7 with e | e
    · rcases h.c7 with e' | e'
      · exact .inl (e.trans e')
      · exact .inr (e.trans e')
    · exact .inr e
theorem SetR.drawn {sb n : Nat} {l : List Int} {E : Int} (W : World) : SetR sb n l E W { W with drawn := W.drawn + 1 } := ⟨But.drawn W, fun _ _ _ => rfl, fun _ => rfl, .inl rfl, .inl rfl⟩
theorem SetR.of {sb n : Nat} {l : List Int} {E : Int} {W W' : World} (h : Below W.heap.size W W') (hs : sb < W.heap.size) : SetR sb n l E W W' :=
  ⟨But.of h, fun i _ _ => h.cell (p := ⟨sb, i, none⟩) hs, fun i => h.frozen (p := ⟨sb, i, none⟩) hs, .inl (h.cell (p := ⟨sb, 6, none⟩) hs), .inl (h.cell (p := ⟨sb, 7, none⟩) hs)⟩
def IsB (sb n : Nat) (l : List Int) (W : World) : Prop := ∃ B d, W.cell? ⟨sb, 6, none⟩ = some (.slice B n d) ∧ Cells W B l ∧ Off sb B ∧ n ≤ d ∧ d ≤ maxLen
theorem IsB.stays {sb n : Nat} {l : List Int} {E : Int} (W W' : World) (h : IsB sb n l W) (hS : SetR sb n l E W W') : IsB sb n l W' := by
  rcases hS.c6 with e | e
  · obtain ⟨B, d, h1, h2, h3⟩ := h
    exact ⟨B, d, e.trans h1, h2.but h3.1 hS.but, h3⟩
  · exact e
def IsE (sb : Nat) (E : Int) (W : World) : Prop := W.cell? ⟨sb, 7, none⟩ = some (.int .i64 E)
theorem IsE.stays {sb n : Nat} {l : List Int} {E : Int} (W W' : World) (h : IsE sb E W) (hS : SetR sb n l E W W') : IsE sb E W' := by
  rcases hS.c7 with e | e
  · exact e.trans h
  · exact e
theorem SetR.has6 {sb n : Nat} {l : List Int} {E : Int} {W W' : World} (hS : SetR sb n l E W W') {u : Value} (h : W.cell? ⟨sb, 6, none⟩ = some u) : ∃ u, W'.cell? ⟨sb, 6, none⟩ = some u := by
  rcases hS.c6 with e | ⟨B, d, e, _⟩
  · exact ⟨u, e.trans h⟩
  · exact ⟨_, e⟩
theorem SetR.has7 {sb n : Nat} {l : List Int} {E : Int} {W W' : World} (hS : SetR sb n l E W W') {u : Value} (h : W.cell? ⟨sb, 7, none⟩ = some u) : ∃ u, W'.cell? ⟨sb, 7, none⟩ = some u := by
  rcases hS.c7 with e | e
  · exact ⟨u, e.trans h⟩
  · exact ⟨_, e⟩
theorem SetR.blk {sb n : Nat} {l : List Int} {E : Int} {W W' : World} {a0 a1 a2 a3 a4 a5 u6 u7 u8 v6 v7 : Value} (hS : SetR sb n l E W W') (h : Blk W sb #[a0, a1, a2, a3, a4, a5, u6, u7, u8]) (h6 : W'.cell? ⟨sb, 6, none⟩ = some v6) (h7 : W'.cell? ⟨sb, 7, none⟩ = some v7) :
    Blk W' sb #[a0, a1, a2, a3, a4, a5, v6, v7, u8] := by
  refine ⟨Nat.lt_of_lt_of_le h.lt hS.but.size, fun i => ?_, fun i => (hS.fr i).trans (h.f i)⟩
  by_cases e6 : i = 6
  · subst e6; exact h6
  · by_cases e7 : i = 7
    · subst e7; exact h7
    · rw [hS.rest i e6 e7, h.c i]
      rcases Nat.lt_or_ge i 9 with h9 | h9
      · have : i = 0 ∨ i = 1 ∨ i = 2 ∨ i = 3 ∨ i = 4 ∨ i = 5 ∨ i = 8 := by omega
        rcases this with rfl | rfl | rfl | rfl | rfl | rfl | rfl <;> rfl
      · rw [Array.getElem?_eq_none (by simpa using h9), Array.getElem?_eq_none (by simpa using h9)]
theorem ne_off {sb i j : Nat} (h : i ≠ j) : (⟨sb, i, none⟩ : Addr) ≠ ⟨sb, j, none⟩ := fun e => h (by cases e; rfl)
theorem SetR.put6 {sb n : Nat} {l : List Int} {E : Int} {W : World} {u : Value} {B : Option Addr} {d : Nat} (hu : W.cell? ⟨sb, 6, none⟩ = some u) (hC : Cells W B l) (ho : Off sb B ∧ n ≤ d ∧ d ≤ maxLen) :
    IsB sb n l (W.setCell ⟨sb, 6, none⟩ (.slice B n d)) ∧ SetR sb n l E W (W.setCell ⟨sb, 6, none⟩ (.slice B n d)) := by
  have h6 := World.cell?_setCell_same W _ (.slice B n d) hu
  have hC' : Cells (W.setCell ⟨sb, 6, none⟩ (.slice B n d)) B l := hC.but ho.1 (But.put W 6 _)
  exact ⟨⟨B, d, h6, hC', ho⟩, But.put W 6 _, fun i h1 _ => World.cell?_setCell_other W _ _ _ (ne_off (by omega)), fun j => World.frozen?_setCell .., .inr ⟨B, d, h6, hC', ho⟩, .inl (World.cell?_setCell_other W _ _ _ (ne_off (by omega)))⟩
theorem SetR.put7 {sb n : Nat} {l : List Int} {E : Int} {W : World} {u : Value} (hu : W.cell? ⟨sb, 7, none⟩ = some u) :
    IsE sb E (W.setCell ⟨sb, 7, none⟩ (.int .i64 E)) ∧ SetR sb n l E W (W.setCell ⟨sb, 7, none⟩ (.int .i64 E)) := by
  have h7 := World.cell?_setCell_same W _ (.int .i64 E) hu
  exact ⟨h7, But.put W 7 _, fun i _ h2 => World.cell?_setCell_other W _ _ _ (ne_off (by omega)), fun j => World.frozen?_setCell .., .inl (World.cell?_setCell_other W _ _ _ (ne_off (by omega))), .inr h7⟩

namespace RelG
open Rel (Know Ctx deps facts ons GOK3)
variable {S : World → World → Prop} {P : Program} {DS : List Tmp} {w0 : World} {a0 : Act} {T : Ctx → Prop} {Γ : Ctx} {o : Oper} {rest : List Oper}
/-- A call of whose result R is known. -/
theorem callR3 (R : Know) (hs : Stable S R) (hof : ∀ W W', S w0 W → Below W.heap.size W W' → S W W') (hg : GOK3 Γ o)
    (h : ∀ (a : Act) (W : World), S w0 W → deps Γ a W (ons o) → (∀ t, t ∉ DS → a.eval (.tmp t) = a0.eval (.tmp t)) → ∃ f args, (execOp a.eval o).run P W = .ok (.enter f args) W ∧ Calls P f args W fun e W' => ∃ v, e = .returned v ∧ R v W' ∧ Below W.heap.size W W')
    (hn : walk3 S P DS w0 a0 T (Γ ++ [(o.dst, R)]) rest) : walk3 S P DS w0 a0 T Γ (o :: rest) :=
  ⟨R, hs, hg, fun a W hb hd hbase K Q hK => by
    obtain ⟨f, args, hrun, hc⟩ := h a W hb hd hbase
    unfold Oper.wp
    rw [hrun]
    simp only [Oper.upon]
    refine hc.mono ?_
    rintro e W' ⟨v, rfl, hR, hbb⟩
    exact hK v W' hR (hof W W' hb hbb), hn⟩
end RelG

set_option maxHeartbeats 4000000 in
set_option maxRecDepth 100000 in
theorem visit_zero (lk ht rc : Int) (s : St) (l : List Int) (b : Option (List Int)) (A1 A2 A3 A5 A6 : Option Addr) (M L Q N K c1 c2 c3 c5 c6 : Nat) (sb : Nat) (w : World) (hK : K = l.length) (hK2 : K ≤ 5000) (hX : Cells w A6 l) (hl : inB 2048 l) (hS : SB lk ht rc A1 A2 A5 M c1 L c2 N c5 sb b w) (o6 : Off sb A6) :
    Calls Tryz.prog 67 #[.pointer (some ⟨sb, 0, none⟩), .slice A6 K c6, .agg #[(.int .i64 (s.h)), (.int .i64 ((s.lv : Int))), .slice A3 Q c3], (.int .i64 0)] w fun r w' => r = .returned (.tuple #[]) ∧ SB lk ht rc A1 A2 A5 M c1 L c2 N c5 sb (updB b l) w' ∧ But sb w w' := by
  have HEN : Hid (∀ W, Cells W A6 l → Calls Tryz.prog 70 #[.slice A6 K c6] W fun r w' => r = .returned (.int .i64 (enF l)) ∧ W = w') := Lib.hid (fun W q => by rw [hK]; exact energy_any l A6 c6 W q hl (by omega))
  have HCL : Hid (∀ W, Cells W A6 l → Calls Tryz.prog 81 #[.slice A6 K c6] W fun r w' => (∃ B d, r = .returned (.slice B K d) ∧ w'.ownsRow W.heap.size 3 1 (.slice B K d) K (l.map (Value.int .i64))) ∧ Below W.heap.size W w') := Lib.hid (fun W q => clone_any l A6 K c6 W hK q hK2)
  have HX := Lib.hid hX
  have HO6 := Lib.hid o6
  have HK := Lib.hid hK
  obtain ⟨B0, d0, K0, hCB, hOB⟩ := hS
  have HK0 := Lib.hid K0
  have HU : Hid ((b = none ∨ enF (b.getD []) < enF l → updB b l = some l) ∧ (b.isSome = true → ¬ enF (b.getD []) < enF l → updB b l = b)) := Lib.hid (by
    cases b with
    | none => exact ⟨fun _ => rfl, fun h => by cases h⟩
    | some b' => exact ⟨fun h => if_pos (by rcases h with h | h; cases h; exact h), fun _ h => if_neg h⟩)
  have HST : Hid (∀ w', But sb w w' → Blk w' sb #[(.int .i64 lk), (.int .i64 ht), .slice A1 M c1, (.int .i64 rc), .slice A2 L c2, .slice A5 N c5, .slice B0 (b.getD []).length d0, (.int .i64 (enF (b.getD []))), .bool b.isSome] → SB lk ht rc A1 A2 A5 M c1 L c2 N c5 sb b w') := Lib.hid (fun w' hw hk => ⟨B0, d0, hk, hCB.but hOB.1 hw, hOB⟩)
  have HFN : Hid (b = none ∨ b.isSome = true) := Lib.hid (by cases b; exact .inl rfl; exact .inr rfl)
  have HF0 : Hid (b = none → b.isSome = false) := Lib.hid (by rintro rfl; rfl)
  obtain ⟨E, hE⟩ : ∃ E, E = enF l := ⟨_, rfl⟩
  obtain ⟨E0, hE0⟩ : ∃ E0, E0 = enF (b.getD []) := ⟨_, rfl⟩
  obtain ⟨n0, hn0⟩ : ∃ n0, n0 = (b.getD []).length := ⟨_, rfl⟩
  obtain ⟨F, hF⟩ : ∃ F, F = b.isSome := ⟨_, rfl⟩
  have HE := Lib.hid hE
  rw [← hE] at HEN HU
  rw [← hE0] at HU HST HK0
  rw [← hn0] at HST HK0
  rw [← hF] at HU HST HK0 HFN HF0
  obtain ⟨c00, c01, c02, c03, c04, c05, c06, c07, c08, l0, f0⟩ := HK0.out.o9
  clear hE hE0 hn0 hF hK hX hl o6 K0 hCB
  have sl1 : sb < w.heap.size + 1 := by omega
  have sl2 : sb < w.heap.size + 1 + 1 := by omega
  have sl3 : sb < w.heap.size + 1 + 1 + 1 := by omega
  have hcase : ((F = false ∨ F = true ∧ E0 < E) ∧ updB b l = some l) ∨ (F = true ∧ ¬ E0 < E ∧ updB b l = b) := by
    rcases HFN.out with h | h
    · exact .inl ⟨.inl (HF0.out h), HU.out.1 (.inl h)⟩
    · by_cases h2 : E0 < E
      · exact .inl ⟨.inr ⟨h, h2⟩, HU.out.1 (.inr h2)⟩
      · exact .inr ⟨h, h2, HU.out.2 h h2⟩
  rcases hcase with ⟨hF, hu⟩ | ⟨rfl, hlt, hu⟩
  · rw [hu]
    clear HU HST HFN HF0 hu
    rcases hF with rfl | ⟨rfl, hlt⟩
    all_goals (
      go_enter Tryz.func67, Tryz.ntmps67
      go_wp2_with (go_at_call 70; refine (HEN.out _ (HX.out.below (by (repeat (first | (with_reducible exact Below.refl _ _) | ((with_reducible refine Below.setCell ?_ ?_ _); rotate_left 1; focus (first | (simp; done) | (simp; omega) | (simp at *; omega))) | ((with_reducible refine Below.alloc ?_ ?_ _); rotate_left 1; focus (first | (simp; done) | (simp; omega) | (simp at *; omega))) | (with_reducible refine Below.drew ?_) | ((with_reducible refine Calm.step (by assumption) ?_ ?_); rotate_left 1; focus (first | (simp; done) | (simp; omega) | (simp at *; omega)))))))).mono ?_; rintro r w1 ⟨rfl, rfl⟩)
      refine name_world ?_
      intro w4 e4
      have KS := (show Blk w4 sb _ from by rw [e4]; exact HK0.out.below (by (repeat (first | (with_reducible exact Below.refl _ _) | ((with_reducible refine Below.setCell ?_ ?_ _); rotate_left 1; focus (first | (simp; done) | (simp; omega) | (simp at *; omega))) | ((with_reducible refine Below.alloc ?_ ?_ _); rotate_left 1; focus (first | (simp; done) | (simp; omega) | (simp at *; omega))) | (with_reducible refine Below.drew ?_) | ((with_reducible refine Calm.step (by assumption) ?_ ?_); rotate_left 1; focus (first | (simp; done) | (simp; omega) | (simp at *; omega)))))))
      have P4 : Blk w4 w.heap.size #[.pointer (some ⟨sb, 0, none⟩)] := by rw [e4]; (repeat (first | ((with_reducible refine Blk.at_ ?_); focus (first | rfl | (simp; done) | (simp; omega))) | (with_reducible refine Blk.alloc ?_ _) | (with_reducible refine Blk.below ?_ (by with_reducible assumption)) | (with_reducible refine Blk.drew ?_)))
      have P5 : Blk w4 (w.heap.size + 1) #[.slice A6 K c6] := by rw [e4]; (repeat (first | ((with_reducible refine Blk.at_ ?_); focus (first | rfl | (simp; done) | (simp; omega))) | (with_reducible refine Blk.alloc ?_ _) | (with_reducible refine Blk.below ?_ (by with_reducible assumption)) | (with_reducible refine Blk.drew ?_)))
      have HX4 := Lib.hid (show Cells w4 A6 l from by rw [e4]; exact HX.out.below (by (repeat (first | (with_reducible exact Below.refl _ _) | ((with_reducible refine Below.setCell ?_ ?_ _); rotate_left 1; focus (first | (simp; done) | (simp; omega) | (simp at *; omega))) | ((with_reducible refine Below.alloc ?_ ?_ _); rotate_left 1; focus (first | (simp; done) | (simp; omega) | (simp at *; omega))) | (with_reducible refine Below.drew ?_) | ((with_reducible refine Calm.step (by assumption) ?_ ?_); rotate_left 1; focus (first | (simp; done) | (simp; omega) | (simp at *; omega)))))))
      have HB4 := Lib.hid (show But sb w w4 from by rw [e4]; exact But.of (by (repeat (first | (with_reducible exact Below.refl _ _) | ((with_reducible refine Below.setCell ?_ ?_ _); rotate_left 1; focus (first | (simp; done) | (simp; omega) | (simp at *; omega))) | ((with_reducible refine Below.alloc ?_ ?_ _); rotate_left 1; focus (first | (simp; done) | (simp; omega) | (simp at *; omega))) | (with_reducible refine Below.drew ?_) | ((with_reducible refine Calm.step (by assumption) ?_ ?_); rotate_left 1; focus (first | (simp; done) | (simp; omega) | (simp at *; omega)))))))
      clear e4 c00 c01 c02 c03 c04 c05 c06 c07 c08 f0
      have HKS := Lib.hid KS
      have ls := KS.lt
      have hTC : Hid (∀ W, SetR sb K l E w4 W → (∀ o, W.cell? ⟨w.heap.size, o, none⟩ = w4.cell? ⟨w.heap.size, o, none⟩) ∧ (∀ o, W.cell? ⟨w.heap.size + 1, o, none⟩ = w4.cell? ⟨w.heap.size + 1, o, none⟩)) := Lib.hid (fun W hS =>
        ⟨fun o => World.cell?_of_block (w := w4) (a := ⟨w.heap.size, o, none⟩) (hS.but.block _ ⟨P4.lt, (show w.heap.size ≠ sb from by omega)⟩), fun o => World.cell?_of_block (w := w4) (a := ⟨w.heap.size + 1, o, none⟩) (hS.but.block _ ⟨P5.lt, (show w.heap.size + 1 ≠ sb from by omega)⟩)⟩)
      obtain ⟨p4, p4l, p4f⟩ := P4.o1
      obtain ⟨p5, p5l, p5f⟩ := P5.o1
      clear KS P4 P5
      (try simp only [Act.put, List.setIfInBounds_toArray, List.set_cons_zero, List.set_cons_succ])
      refine RelG.region3 (S := SetR sb K l E) SetR.trans SetR.drawn 14 (by kernel_rfl) (by kernel_rfl) (by kernel_rfl) ?_
      simp only [List.take_succ_cons, List.take_zero, List.drop_succ_cons, List.drop_zero, List.filterMap_cons, List.filterMap_nil]
      iterate 4 (apply RelG.op3 SetR.refl; (focus (first | exact Rel.gno rfl | exact Rel.gyes _ true _ rfl rfl rfl | exact Rel.gyes _ false _ rfl rfl rfl)); (focus (intro a W hb hd hbase; obtain ⟨hc4, hc5⟩ := hTC.out W hb; clear hb; simp [Rel.deps, Rel.dep1, Rel.ons, Region.binds, Act.eval] at hd; simp only [Act.eval, List.mem_cons, List.not_mem_nil, not_or, and_imp, or_false, Array.getD_eq_getD_getElem?] at hbase; go_simp; (try go_bits); (try rfl); done)); (try simp only [List.nil_append, List.cons_append]))
      refine RelG.callR3 (fun u W => ∃ B d, u = .slice B K d ∧ Cells W B l ∧ Off sb B ∧ K ≤ d ∧ d ≤ maxLen) (fun u W W' h hS => by
        obtain ⟨B, d, h1, h2, h3⟩ := h
        exact ⟨B, d, h1, h2.but h3.1 hS.but, h3⟩) (fun W W' hS hb => SetR.of hb (Nat.lt_of_lt_of_le ls hS.but.size)) (Rel.gno rfl) ?_ ?_
      · intro a W hb hd hbase
        refine ⟨81, #[.slice A6 K c6], ?_, (HCL.out W (HX4.out.but HO6.out hb.but)).mono ?_⟩
        · clear hb
          simp [Rel.deps, Rel.dep1, Rel.ons, Region.binds, Act.eval] at hd; simp only [Act.eval, List.mem_cons, List.not_mem_nil, not_or, and_imp, or_false, Array.getD_eq_getD_getElem?] at hbase
          go_simp
          (first | done | rfl | (refine ⟨?_, ?_⟩ <;> rfl))
        · rintro e W' ⟨⟨B, d, rfl, ho⟩, hbb⟩
          obtain ⟨B', d', e1, hge, hcc⟩ := own_ints ho HK.out
          cases e1
          refine ⟨_, rfl, ⟨B, d, rfl, hcc, fun p hp => ?_, own_room ho⟩, hbb⟩
          have h1 := hge p hp
          have h2 := hb.but.size
          omega
      (try simp only [List.nil_append, List.cons_append])
      iterate 3 (apply RelG.op3 SetR.refl; (focus (first | exact Rel.gno rfl | exact Rel.gyes _ true _ rfl rfl rfl | exact Rel.gyes _ false _ rfl rfl rfl)); (focus (intro a W hb hd hbase; obtain ⟨hc4, hc5⟩ := hTC.out W hb; clear hb; simp [Rel.deps, Rel.dep1, Rel.ons, Region.binds, Act.eval] at hd; simp only [Act.eval, List.mem_cons, List.not_mem_nil, not_or, and_imp, or_false, Array.getD_eq_getD_getElem?] at hbase; go_simp; (try go_bits); (try rfl); done)); (try simp only [List.nil_append, List.cons_append]))
      refine RelG.store3 (IsB sb K l) IsB.stays (Rel.gno rfl) ?_ ?_
      · intro a W hb hd hbase
        obtain ⟨u6, hu6⟩ := hb.has6 (HKS.out.cell 6 _ rfl)
        have hf6 := (hb.fr 6).trans (HKS.out.f 6)
        clear hb
        simp [Rel.deps, Rel.dep1, Rel.ons, Region.binds, Act.eval] at hd
        obtain ⟨h35, ⟨B, d, h32, hcc, hoo⟩, _⟩ := hd
        obtain ⟨r1, r2⟩ := SetR.put6 (n := K) (l := l) (E := E) (d := d) hu6 hcc hoo
        refine ⟨_, ?_, r1, r2⟩
        clear r1 r2 hcc
        go_simp
      (try simp only [List.nil_append, List.cons_append])
      iterate 2 (apply RelG.op3 SetR.refl; (focus (first | exact Rel.gno rfl | exact Rel.gyes _ true _ rfl rfl rfl | exact Rel.gyes _ false _ rfl rfl rfl)); (focus (intro a W hb hd hbase; obtain ⟨hc4, hc5⟩ := hTC.out W hb; clear hb; simp [Rel.deps, Rel.dep1, Rel.ons, Region.binds, Act.eval] at hd; simp only [Act.eval, List.mem_cons, List.not_mem_nil, not_or, and_imp, or_false, Array.getD_eq_getD_getElem?] at hbase; go_simp; (try go_bits); (try rfl); done)); (try simp only [List.nil_append, List.cons_append]))
      refine RelG.store3 (IsE sb E) IsE.stays (Rel.gno rfl) ?_ ?_
      · intro a W hb hd hbase
        obtain ⟨u7, hu7⟩ := hb.has7 (HKS.out.cell 7 _ rfl)
        have hf7 := (hb.fr 7).trans (HKS.out.f 7)
        clear hb
        simp [Rel.deps, Rel.dep1, Rel.ons, Region.binds, Act.eval] at hd
        obtain ⟨r1, r2⟩ := SetR.put7 (n := K) (l := l) (E := E) hu7
        refine ⟨_, ?_, r1, r2⟩
        clear r1 r2
        obtain ⟨h37, h33, -⟩ := hd
        go_simp
      (try simp only [List.nil_append, List.cons_append])
      iterate 2 (apply RelG.op3 SetR.refl; (focus (first | exact Rel.gno rfl | exact Rel.gyes _ true _ rfl rfl rfl | exact Rel.gyes _ false _ rfl rfl rfl)); (focus (intro a W hb hd hbase; obtain ⟨hc4, hc5⟩ := hTC.out W hb; clear hb; simp [Rel.deps, Rel.dep1, Rel.ons, Region.binds, Act.eval] at hd; simp only [Act.eval, List.mem_cons, List.not_mem_nil, not_or, and_imp, or_false, Array.getD_eq_getD_getElem?] at hbase; go_simp; (try go_bits); (try rfl); done)); (try simp only [List.nil_append, List.cons_append]))
      refine RelG.done3 ?_
      intro x w5 hS hx
      simp only [Rel.facts, Nat.zero_add, Nat.reduceAdd] at hx
      obtain ⟨e0, e1, e2, e3, ⟨B, d, e4, -, -⟩, e5, e6, e7, s8, e9, e10, s11, e12, e13, _⟩ := hx
      simp only [RelG.fill, Nat.zero_add, Nat.reduceAdd, e0, e1, e2, e3, e4, e5, e6, e7, e9, e10, e12, e13]
      simp only [Act.put, List.setIfInBounds_toArray, List.set_cons_zero, List.set_cons_succ]
      obtain ⟨B6, d6, z6, hC6, hO6'⟩ := s8
      have K5 := hS.blk HKS.out z6 s11
      have HK5 := Lib.hid K5
      have HB5 := Lib.hid (HB4.out.trans hS.but)
      have HC6 := Lib.hid hC6
      have HO5 := Lib.hid hO6'
      obtain ⟨c00, c01, c02, c03, c04, c05, c06, c07, c08, l5, f5⟩ := K5.o9
      clear hS e0 e1 e2 e3 e4 e5 e6 e7 z6 s11 e9 e10 e12 e13 K5 hC6 hO6' p4 p4l p4f p5 p5l p5f
      go_wp2
      refine bodyPost_ret (v := .tuple #[]) (by simp [results, Tryz.results67, go_sem]) rfl ⟨rfl, ⟨B6, d6, ?_, ?_, HO5.out.1, by have h := HO5.out.2; rw [HK.out] at h; exact h⟩, HB5.out.trans (But.put w5 8 _)⟩
      · have h8 := HK5.out.set (i := 8) (by simp) (.bool true)
        show Blk _ sb #[(.int .i64 lk), (.int .i64 ht), .slice A1 M c1, (.int .i64 rc), .slice A2 L c2, .slice A5 N c5, .slice B6 l.length d6, (.int .i64 (enF l)), .bool true]
        rw [← HK.out, ← HE.out]
        exact h8
      · exact HC6.out.but HO5.out.1 (But.put w5 8 _))
  · rw [hu]
    go_enter Tryz.func67, Tryz.ntmps67
    go_wp2_with (go_at_call 70; refine (HEN.out _ (HX.out.below (by (repeat (first | (with_reducible exact Below.refl _ _) | ((with_reducible refine Below.setCell ?_ ?_ _); rotate_left 1; focus (first | (simp; done) | (simp; omega) | (simp at *; omega))) | ((with_reducible refine Below.alloc ?_ ?_ _); rotate_left 1; focus (first | (simp; done) | (simp; omega) | (simp at *; omega))) | (with_reducible refine Below.drew ?_) | ((with_reducible refine Calm.step (by assumption) ?_ ?_); rotate_left 1; focus (first | (simp; done) | (simp; omega) | (simp at *; omega)))))))).mono ?_; rintro r w1 ⟨rfl, rfl⟩)
    refine bodyPost_ret (v := .tuple #[]) (by simp [results, Tryz.results67, go_sem]) rfl ?_
    refine ⟨rfl, HST.out _ (But.of ?_) (HK0.out.below ?_), But.of ?_⟩ <;> (repeat (first | (with_reducible exact Below.refl _ _) | ((with_reducible refine Below.setCell ?_ ?_ _); rotate_left 1; focus (first | (simp; done) | (simp; omega) | (simp at *; omega))) | ((with_reducible refine Below.alloc ?_ ?_ _); rotate_left 1; focus (first | (simp; done) | (simp; omega) | (simp at *; omega))) | (with_reducible refine Below.drew ?_) | ((with_reducible refine Calm.step (by assumption) ?_ ?_); rotate_left 1; focus (first | (simp; done) | (simp; omega) | (simp at *; omega)))))
end Go.Proofs.YtdeapbihbhoefaaGreatDoor

/- Contracts of the small functions of package section. -/
namespace Go.Proofs.YtdeapbihbhoefaaGreatDoor
open Go.RowKit
open Calm (bcell Blk)

end Go.Proofs.YtdeapbihbhoefaaGreatDoor

/- Contracts of numbers, CheckSection and CheckState. -/
namespace Go.Proofs.YtdeapbihbhoefaaGreatDoor
open Go.RowKit
open Calm (bcell Blk)

end Go.Proofs.YtdeapbihbhoefaaGreatDoor
