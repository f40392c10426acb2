/- Part 5 of the texts of the claim: Rel, Rel2, Iter, Drv. -/
import Derived.Test.YtadcmjnebjgijaaGreatDoorMb1
import Derived.RangeFuncNested
import Derived.RangeFuncBound
import Derived.RangeFuncCalls
import Derived.RangeFuncLeaves

/- Regions whose order is open, and whose head makes memory: each operation leaves a value of which something is known, whatever else has come up; then a forced tail. No program. -/
namespace Go.Proofs.YtadcmjnebjgijaaGreatDoor.Rel
open Go.RowKit

/-- What is known of a value in a world. -/
abbrev Know := Value → World → Prop
/-- .. and stays known when only new memory turns. -/
def Stable (R : Know) : Prop := ∀ v W W', R v W → Below W.heap.size W W' → R v W'

section
variable {P : Program} {ops : Array Oper}

def dst (ops : Array Oper) (j : Nat) : Option Tmp := (ops[j]?).bind (·.dst)

/-- The values of the operations that have come up, in their slots. -/
def puts (ops : Array Oper) (x : Nat → Value) (p : Nat → Bool) : List Nat → Act → Act
  | [], a => a
  | j :: L, a => puts ops x p L (if p j then a.put (dst ops j) (x j) else a)

def upd {α : Type} (x : Nat → α) (i : Nat) (v : α) : Nat → α := fun j => if j = i then v else x j

theorem puts_agree {x x' : Nat → Value} {p p' : Nat → Bool} : ∀ (L : List Nat) (a : Act), (∀ j ∈ L, p j = p' j ∧ (p j = true → x j = x' j)) → puts ops x p L a = puts ops x' p' L a
  | [], _, _ => rfl
  | j :: L, a, h => by
    obtain ⟨h1, h2⟩ := h j (by simp)
    have h3 : ∀ k ∈ L, p k = p' k ∧ (p k = true → x k = x' k) := fun k hk => h k (by simp [hk])
    unfold puts
    by_cases hp : p j = true
    · rw [if_pos hp, if_pos (h1 ▸ hp), h2 hp]
      exact puts_agree L _ h3
    · rw [if_neg hp, if_neg (by rw [← h1]; exact hp)]
      exact puts_agree L _ h3

theorem puts_put {x : Nat → Value} {p : Nat → Bool} {d : Option Tmp} {v : Value} : ∀ (L : List Nat) (a : Act), (∀ j ∈ L, p j = true → ∀ t, d = some t → dst ops j ≠ some t) → puts ops x p L (a.put d v) = (puts ops x p L a).put d v
  | [], _, _ => rfl
  | j :: L, a, h => by
    have h3 : ∀ k ∈ L, p k = true → ∀ t, d = some t → dst ops k ≠ some t := fun k hk => h k (by simp [hk])
    unfold puts
    by_cases hp : p j = true
    · rw [if_pos hp, if_pos hp, Act.put_comm a v (x j) (h j (by simp) hp)]
      exact puts_put L _ h3
    · rw [if_neg hp, if_neg hp]
      exact puts_put L _ h3

/-- distinct slots. -/
def Apart (ops : Array Oper) (n : Nat) : Prop := ∀ i j, i < n → j < n → i ≠ j → ∀ t, dst ops i = some t → dst ops j ≠ some t
def apartB (ops : Array Oper) (n : Nat) : Bool := (List.range n).all fun i => (List.range n).all fun j => i == j || (match dst ops i, dst ops j with | some a, some b => a != b | _, _ => true)
theorem apart_of {n : Nat} (h : apartB ops n = true) : Apart ops n := by
  intro i j hi hj hij t ht hj'
  have h1 := List.all_eq_true.1 (List.all_eq_true.1 h i (List.mem_range.2 hi)) j (List.mem_range.2 hj)
  simp [hij, ht, hj'] at h1

theorem puts_new {x : Nat → Value} {p : Nat → Bool} {i : Nat} {v : Value} {n : Nat} (hap : Apart ops n) (hi : i < n) (hpi : p i = false) :
    ∀ (L : List Nat) (a : Act), L.Nodup → i ∈ L → (∀ j ∈ L, j < n) → (puts ops x p L a).put (dst ops i) v = puts ops (upd x i v) (upd p i true) L a
  | [], _, _, h, _ => by simp at h
  | j :: L, a, hn, hm, hl => by
    rw [List.nodup_cons] at hn
    unfold puts
    by_cases hji : j = i
    · subst hji
      rw [if_neg (by rw [hpi]; exact Bool.false_ne_true), if_pos (by simp [upd])]
      have e1 : upd x j v j = v := by simp [upd]
      rw [e1, ← puts_put L a (fun k hk hpk t ht => hap j k hi (hl k (by simp [hk])) (fun e => hn.1 (e ▸ hk)) t ht)]
      refine puts_agree L _ (fun k hk => ?_)
      have hkj : k ≠ j := fun e => hn.1 (e ▸ hk)
      exact ⟨by simp [upd, hkj], fun _ => by simp [upd, hkj]⟩
    · have e1 : upd x i v j = x j := by simp [upd, hji]
      have e2 : upd p i true j = p j := by simp [upd, hji]
      rw [e1, e2]
      exact puts_new hap hi hpi L _ hn.2 ((List.mem_cons.1 hm).resolve_left (Ne.symm hji)) (fun k hk => hl k (by simp [hk]))

theorem put_size (a : Act) (d : Option Tmp) (v : Value) : (a.put d v).tmps.size = a.tmps.size := by
  cases d <;> simp [Act.put]
theorem puts_size {x : Nat → Value} {p : Nat → Bool} : ∀ (L : List Nat) (a : Act), (puts ops x p L a).tmps.size = a.tmps.size
  | [], _ => rfl
  | j :: L, a => by
    unfold puts
    rw [puts_size L]
    split
    · exact put_size _ _ _
    · rfl
theorem puts_other {x : Nat → Value} {p : Nat → Bool} {t : Tmp} : ∀ (L : List Nat) (a : Act), (∀ j ∈ L, dst ops j ≠ some t) → (puts ops x p L a).eval (.tmp t) = a.eval (.tmp t)
  | [], _, _ => rfl
  | j :: L, a, h => by
    unfold puts
    rw [puts_other L _ (fun k hk => h k (by simp [hk]))]
    split
    · exact Act.eval_put (fun d hd e => h j (by simp) (by injection e with e; rw [hd, e]))
    · rfl
theorem eval_put_same {a : Act} {t : Tmp} {v : Value} (h : t < a.tmps.size) : (a.put (some t) v).eval (.tmp t) = v := by
  simp [Act.put, Act.eval, h]
theorem puts_here {x : Nat → Value} {p : Nat → Bool} {i n : Nat} {t : Tmp} (hap : Apart ops n) (hi : i < n) (hp : p i = true) (hd : dst ops i = some t) :
    ∀ (L : List Nat) (a : Act), L.Nodup → i ∈ L → (∀ j ∈ L, j < n) → t < a.tmps.size → (puts ops x p L a).eval (.tmp t) = x i
  | [], _, _, h, _, _ => by simp at h
  | j :: L, a, hn, hm, hl, hs => by
    rw [List.nodup_cons] at hn
    unfold puts
    by_cases hji : j = i
    · subst hji
      rw [if_pos hp, puts_other L _ (fun k hk => hap j k hi (hl k (by simp [hk])) (fun e => hn.1 (e ▸ hk)) t hd), hd]
      exact eval_put_same hs
    · refine puts_here hap hi hp hd L _ hn.2 ((List.mem_cons.1 hm).resolve_left (Ne.symm hji)) (fun k hk => hl k (by simp [hk])) ?_
      split
      · rw [put_size]; exact hs
      · exact hs

/-- What an operation of the head must show: wherever it comes up. -/
def Ob (P : Program) (ops : Array Oper) (n : Nat) (w0 : World) (a0 : Act) (Γ : List Know) (o : Oper) (R : Know) : Prop :=
  ∀ (a : Act) (W : World), Below w0.heap.size w0 W → a.tmps.size = a0.tmps.size →
    (∀ e ∈ o.after, Region.binds .any e = true → ∀ t, dst ops e.on = some t → ∀ K, Γ[e.on]? = some K → K (a.eval (.tmp t)) W) →
    (∀ t, (∀ j, j < n → dst ops j ≠ some t) → a.eval (.tmp t) = a0.eval (.tmp t)) →
    ∀ (K : Act → World → Prop) (Q : Exit → Act → World → Prop), (∀ v W', R v W' → Below W.heap.size W W' → K (a.put o.dst v) W') → o.wp P a W K Q

theorem wanted_of {o : Oper} {a : Act} {g : Nat} {b : Bool} {t : Tmp} (hg : o.guard = some (g, b)) (hd : dst ops g = some t) (h1 : a.eval (.tmp t) = .bool b) (h3 : t < a.tmps.size) : Region.wanted o (yielded ops a.tmps) = true := by
  have h4 : a.tmps[t]? = some (.bool b) := by
    rw [Array.getElem?_eq_getElem h3]
    simpa [Act.eval, Array.getD, h3] using h1
  have hd' : (ops[g]?).bind (·.dst) = some t := hd
  unfold Region.wanted yielded
  rw [hg]
  simp only [hd', Option.bind_some, h4]
  simp
/-- The operation is carried out: it has no guard, or the guard is known. -/
def GOK (ops : Array Oper) (Γ : List Know) (o : Oper) : Prop :=
  o.guard = none ∨ ∃ g b t, o.guard = some (g, b) ∧ (∃ e ∈ o.after, Region.binds .any e = true ∧ e.on = g) ∧ dst ops g = some t ∧ Γ[g]? = some (fun u _ => u = .bool b)
theorem GOK.mono {Γ Δ : List Know} {o : Oper} (h : GOK ops Γ o) (hsub : ∀ (g : Nat) (K : Know), Γ[g]? = some K → Δ[g]? = some K) : GOK ops Δ o := by
  rcases h with h | ⟨g, b, t, h1, h2, h3, h4⟩
  · exact .inl h
  · exact .inr ⟨g, b, t, h1, h2, h3, hsub _ _ h4⟩
/-- The walk in the order of the text: at each operation something that stays known is chosen. -/
def walk (P : Program) (ops : Array Oper) (n : Nat) (w0 : World) (a0 : Act) (T : List Know → Prop) : List Know → List Oper → Prop
  | Γ, [] => T Γ
  | Γ, o :: l => ∃ R, Stable R ∧ GOK ops Γ o ∧ (dst ops Γ.length = o.dst → Ob P ops n w0 a0 Γ o R) ∧ walk P ops n w0 a0 T (Γ ++ [R]) l

/-- all edges go back. -/
def backB (ops : Array Oper) : Bool := (List.range ops.size).all fun i => match ops[i]? with | some o => o.after.all fun e => decide (e.on < i) || !Region.binds .any e | none => true

theorem walk_all {n : Nat} {w0 : World} {a0 : Act} {T : List Know → Prop} : ∀ (l : List Oper) (Γ : List Know), walk P ops n w0 a0 T Γ l →
    ∃ Δ : List Know, Δ.length = l.length ∧ T (Γ ++ Δ) ∧ ∀ k o, l[k]? = some o → ∃ R, Δ[k]? = some R ∧ Stable R ∧ GOK ops (Γ ++ Δ.take k) o ∧ (dst ops (Γ.length + k) = o.dst → Ob P ops n w0 a0 (Γ ++ Δ.take k) o R)
  | [], Γ, h => ⟨[], rfl, by simpa [walk] using h, fun k o hk => by simp at hk⟩
  | o :: l, Γ, h => by
    obtain ⟨R, hs, hg, hob, hw⟩ := h
    obtain ⟨Δ, hl, hT, hall⟩ := walk_all l _ hw
    refine ⟨R :: Δ, by simp [hl], by simpa using hT, fun k o' hk => ?_⟩
    cases k with
    | zero =>
      obtain rfl : o = o' := by simpa using hk
      exact ⟨R, rfl, hs, by simpa using hg, by simpa using hob⟩
    | succ k =>
      obtain ⟨R', h1, h2, h3, h4⟩ := hall k o' (by simpa using hk)
      refine ⟨R', by simpa using h1, h2, by simpa using h3, fun hd => ?_⟩
      have := h4 (by rw [← hd]; congr 1; simp; omega)
      simpa using this

theorem Ob.mono {n : Nat} {w0 : World} {a0 : Act} {Γ Δ : List Know} {o : Oper} {R : Know} (h : Ob P ops n w0 a0 Γ o R) (hsub : ∀ e ∈ o.after, ∀ K, Γ[e.on]? = some K → Δ[e.on]? = some K) : Ob P ops n w0 a0 Δ o R :=
  fun a W hb hz hd hbase K Q hK => h a W hb hz (fun e he hbd t ht K' hK' => hd e he hbd t ht K' (hsub e he K' hK')) hbase K Q hK

/-- What holds while the head is on its way. -/
structure Inv (ops : Array Oper) (n : Nat) (w0 : World) (a0 : Act) (Γ : List Know) (listed : Array Bool) (a : Act) (W : World) : Prop where
  below : Below w0.heap.size w0 W
  vals : ∃ x : Nat → Value, a = puts ops x (fun j => listed.getD j false) (List.range n) a0 ∧ ∀ j, j < n → listed.getD j false = true → ∀ K, Γ[j]? = some K → K (x j) W

theorem countP_upd {i : Nat} {p : Nat → Bool} (hp : p i = true) : ∀ (L : List Nat), L.Nodup → i ∈ L → L.countP p = L.countP (upd p i false) + 1
  | [], _, h => by simp at h
  | j :: L, hn, hm => by
    rw [List.nodup_cons] at hn
    by_cases hji : j = i
    · subst hji
      have e : ∀ M : List Nat, j ∉ M → M.countP (upd p j false) = M.countP p := by
        intro M hM
        induction M with
        | nil => rfl
        | cons k M ih =>
          have hk : k ≠ j := fun e => hM (by simp [e])
          simp [List.countP_cons, ih (fun h => hM (by simp [h])), upd, hk]
      simp [List.countP_cons, hp, upd, e L hn.1]
    · have := countP_upd hp L hn.2 ((List.mem_cons.1 hm).resolve_left (Ne.symm hji))
      have e : upd p i false j = p j := by simp [upd, hji]
      simp only [List.countP_cons, this, e]
      omega

def left (n : Nat) (listed : Array Bool) : Nat := (List.range n).countP fun j => !listed.getD j false

def Ln (n size : Nat) : Array Bool := ((List.range size).map fun j => decide (j < n)).toArray
def okB (ops : Array Oper) (n : Nat) : Bool :=
  decide (n < ops.size) && Region.sinkB .any ops n && Region.chainB .any ops n && Region.seqB .any ops (ops.size - n) n (Ln n ops.size) && apartB ops n && backB ops
def sizeB (ops : Array Oper) (n N : Nat) : Bool := (List.range n).all fun i => match dst ops i with | some t => decide (t < N) | none => true

theorem all_listed {n : Nat} {listed : Array Bool} (h : left n listed = 0) : ∀ j, j < n → listed.getD j false = true := by
  intro j hj
  have := List.countP_eq_zero.1 h j (List.mem_range.2 hj)
  simpa using this
theorem listed_Ln {n : Nat} {listed : Array Bool} (inv : HeadInv .any ops n listed) (h : left n listed = 0) (hn : n ≤ ops.size) : listed = Ln n ops.size := by
  apply Array.ext
  · simp [Ln, inv.size]
  · intro j h1 h2
    have hj : j < ops.size := by rw [← inv.size]; exact h1
    by_cases hjn : j < n
    · have := all_listed h j hjn
      simp [h1] at this
      simp [Ln, this, hjn]
    · have := inv.tail j (by omega) hj
      simp [h1] at this
      simp [Ln, this, hjn]
theorem some_ready {n : Nat} {listed : Array Bool} (inv : HeadInv .any ops n listed) (hback : backB ops = true) (hn : n < ops.size) :
    ∀ (m k : Nat), k < m → k < n → listed.getD k true = false → ∃ i, i ∈ Region.ready .any ops listed
  | 0, _, h, _, _ => by omega
  | m + 1, k, hk, hkn, hun => by
    obtain ⟨o, ho⟩ : ∃ o, ops[k]? = some o := ⟨_, Array.getElem?_eq_getElem (by omega)⟩
    by_cases hall : ∀ e ∈ o.after, Region.binds .any e = true → listed.getD e.on false = true
    · exact ⟨k, mem_ready.2 ⟨hun, o, ho, hall⟩⟩
    · have : ∃ e, e ∈ o.after ∧ Region.binds .any e = true ∧ ¬ listed.getD e.on false = true := by
        apply Classical.byContradiction
        intro hno
        exact hall (fun e he hb => Classical.byContradiction fun h => hno ⟨e, he, hb, h⟩)
      obtain ⟨e, he, hb, hne⟩ := this
      have h1 := List.all_eq_true.1 hback k (List.mem_range.2 (by omega))
      simp only [ho] at h1
      have h2 := Array.all_eq_true'.1 h1 e he
      have hlt : e.on < k := by simpa [hb] using h2
      have hs : e.on < listed.size := by rw [inv.size]; omega
      exact some_ready inv hback hn m e.on (by omega) (by omega) (getD_in hs (by simpa using hne))

theorem go {n : Nat} {Q : Exit → Act → World → Prop} {w0 : World} {a0 : Act} {Γ : List Know} (hok : okB ops n = true) (hsz : sizeB ops n a0.tmps.size = true)
    (hΓ : ∀ k, k < n → ∃ o R, ops[k]? = some o ∧ Γ[k]? = some R ∧ Stable R ∧ GOK ops Γ o ∧ Ob P ops n w0 a0 Γ o R)
    (hend : ∀ (x : Nat → Value) (W : World), Below w0.heap.size w0 W → (∀ j, j < n → ∀ K, Γ[j]? = some K → K (x j) W) → wpAny P .any ops Q (ops.size - n) (Ln n ops.size) (puts ops x (fun _ => true) (List.range n) a0) W) :
    ∀ (f : Nat) (listed : Array Bool) (a : Act) (W : World), HeadInv .any ops n listed → left n listed = f → Inv ops n w0 a0 Γ listed a W → wpAny P .any ops Q (f + (ops.size - n)) listed a W := by
  simp only [okB, Bool.and_eq_true, decide_eq_true_eq] at hok
  obtain ⟨⟨⟨⟨⟨hn, hs⟩, hc⟩, _⟩, hap⟩, hback⟩ := hok
  have hap := apart_of hap
  intro f
  induction f with
  | zero =>
    intro listed a W inv hl hI
    obtain ⟨hb, x, rfl, hx⟩ := hI
    have hall := all_listed hl
    rw [Nat.zero_add]
    rw [puts_agree (p' := fun _ => true) (x' := x) (List.range n) a0 (fun j hj => ⟨hall j (List.mem_range.1 hj), fun _ => rfl⟩), listed_Ln inv hl (by omega)]
    exact hend x W hb (fun j hj K hK => hx j hj (hall j hj) K hK)
  | succ f ih =>
    intro listed a W inv hl hI
    have hex : ∃ k, k < n ∧ listed.getD k true = false := by
      apply Classical.byContradiction
      intro hno
      have : left n listed = 0 := List.countP_eq_zero.2 (fun j hj => by
        have hj := List.mem_range.1 hj
        have hjs : j < listed.size := by rw [inv.size]; omega
        cases h : listed.getD j false with
        | true => simp
        | false => exact absurd ⟨j, hj, getD_in hjs h⟩ hno)
      omega
    obtain ⟨k, hk, hun⟩ := hex
    rw [show f + 1 + (ops.size - n) = (f + (ops.size - n)) + 1 by omega]
    refine ⟨fun h0 => ?_, fun i hi => ?_⟩
    · obtain ⟨i, hi⟩ := some_ready inv hback hn (k + 1) k (by omega) hk hun
      rw [h0] at hi
      cases hi
    have hin : i < n := by
      rcases Nat.lt_or_ge i n with h | h
      · exact h
      · exact absurd hi (tail_waits hs hc hn inv _ k rfl hk hun i h)
    obtain ⟨hiun, oi, hoi, hdeps⟩ := mem_ready.1 hi
    obtain ⟨o, R, ho, hR, hst, hg, hob⟩ := hΓ i hin
    obtain rfl : oi = o := Option.some.inj (hoi.symm.trans ho)
    obtain ⟨hb, x, rfl, hx⟩ := hI
    have hdi : dst ops i = oi.dst := by simp [dst, ho]
    have his : i < listed.size := by rw [inv.size]; omega
    have hif : listed.getD i false = false := getD_both hiun
    have hszt : ∀ j t, j < n → dst ops j = some t → t < a0.tmps.size := fun j t hj hd => by
      have := List.all_eq_true.1 hsz j (List.mem_range.2 hj)
      simpa [hd] using this
    have back : ∀ e ∈ oi.after, Region.binds .any e = true → e.on < i := fun e he hbd => by
      have h1 := List.all_eq_true.1 hback i (List.mem_range.2 (by omega))
      simp only [ho] at h1
      simpa [hbd] using Array.all_eq_true'.1 h1 e he
    unfold wpOp
    simp only [ho]
    have hwant : Region.wanted oi (yielded ops (puts ops x (fun j => listed.getD j false) (List.range n) a0).tmps) = true := by
      rcases hg with hg | ⟨g, b, t, hg, ⟨e, he, hbd, rfl⟩, hd, hK⟩
      · simp [Region.wanted, hg]
      · have hel := hdeps e he hbd
        have hen : e.on < n := by have := back e he hbd; omega
        have h1 := puts_here (x := x) (p := fun j => listed.getD j false) hap hen hel hd (List.range n) a0 (List.nodup_range) (List.mem_range.2 hen) (fun j hj => List.mem_range.1 hj) (hszt _ _ hen hd)
        have h2 : x e.on = .bool b := hx e.on hen hel _ hK
        have h3 : t < (puts ops x (fun j => listed.getD j false) (List.range n) a0).tmps.size := by rw [puts_size]; exact hszt _ _ hen hd
        rw [h2] at h1
        exact wanted_of hg hd h1 h3
    rw [if_pos hwant]
    refine .inl (hob _ W hb (puts_size _ _) ?_ ?_ _ _ ?_)
    · intro e he hbd t ht K hK
      have hel := hdeps e he hbd
      have hen : e.on < n := by have := back e he hbd; omega
      rw [puts_here hap hen hel ht (List.range n) a0 (List.nodup_range) (List.mem_range.2 hen) (fun j hj => List.mem_range.1 hj) (hszt _ _ hen ht)]
      exact hx e.on hen hel K hK
    · intro t ht
      exact puts_other _ _ (fun j hj => ht j (List.mem_range.1 hj))
    · intro v W' hv hb'
      have hget : ∀ j, (listed.setIfInBounds i true).getD j false = upd (fun j => listed.getD j false) i true j := by
        intro j
        by_cases hji : j = i
        · subst hji
          simp [upd, his]
        · rw [getD_set_ne false (Ne.symm hji)]
          simp [upd, hji]
      refine ih _ _ W' (inv.set hi hin) ?_ ⟨hb.trans (hb'.mono hb.size), upd x i v, ?_, ?_⟩
      · have h1 := countP_upd (i := i) (p := fun j => !listed.getD j false) (by simp [hif]) (List.range n) List.nodup_range (List.mem_range.2 hin)
        have h2 : left n (listed.setIfInBounds i true) = (List.range n).countP (upd (fun j => !listed.getD j false) i false) := by
          unfold left
          congr 1
          funext j
          rw [hget j]
          by_cases hji : j = i <;> simp [upd, hji]
        unfold left at hl
        omega
      · rw [← hdi, puts_new hap hin hif (List.range n) a0 List.nodup_range (List.mem_range.2 hin) (fun j hj => List.mem_range.1 hj)]
        exact puts_agree _ _ (fun j _ => ⟨(hget j).symm, fun _ => rfl⟩)
      · intro j hj hlj K hK
        rw [hget j] at hlj
        by_cases hji : j = i
        · subst hji
          obtain rfl : R = K := Option.some.inj (hR.symm.trans hK)
          simpa [upd] using hv
        · have e1 : upd x i v j = x j := by simp [upd, hji]
          have e2 : listed.getD j false = true := by simpa [upd, hji] using hlj
          rw [e1]
          obtain ⟨_, R', _, hR', hst', _⟩ := hΓ j hj
          obtain rfl : R' = K := Option.some.inj (hR'.symm.trans hK)
          exact hst' _ _ _ (hx j hj e2 _ hK) hb'

/-- The frame with all values of the head. -/
def fill : List Oper → Nat → (Nat → Value) → Act → Act
  | [], _, _, a => a
  | o :: l, k, x, a => fill l (k + 1) x (a.put o.dst (x k))
theorem fill_puts {x : Nat → Value} : ∀ (l : List Oper) (k : Nat) (a : Act), (∀ j, j < l.length → l[j]? = ops[k + j]?) → fill l k x a = puts ops x (fun _ => true) (List.range' k l.length) a
  | [], _, _, _ => rfl
  | o :: l, k, a, h => by
    have h0 : ops[k]? = some o := by simpa using (h 0 (by simp)).symm
    have hd : dst ops k = o.dst := by simp [dst, h0]
    simp only [fill, List.length_cons, List.range'_succ, puts, if_true, hd]
    exact fill_puts l (k + 1) _ (fun j hj => by have := h (j + 1) (by simp; omega); simpa [Nat.add_assoc, Nat.add_comm 1 j] using this)

/-- ████ The region. -/
theorem region {id : Nat} {Q : Exit → Act → World → Prop} {a : Act} {w : World} {l : List Oper} (n : Nat) (hm : P.follows .mixedOrders = true) (hok : okB l.toArray n = true) (hsz : sizeB l.toArray n a.tmps.size = true)
    (h : walk P l.toArray n w a (fun (Γ : List Know) => ∀ (x : Nat → Value) (W : World), Below w.heap.size w W → (∀ (j : Nat) (K : Know), Γ[j]? = some K → K (x j) W) → wpList P l.toArray Q (l.drop n) (fill (l.take n) 0 x a) W) [] (l.take n)) :
    (Code.region id l.toArray true).wp P Q a w := by
  have hok' := hok
  simp only [okB, Bool.and_eq_true, decide_eq_true_eq] at hok'
  obtain ⟨⟨⟨⟨⟨hn, _⟩, _⟩, hseq⟩, _⟩, hback⟩ := hok'
  have hn' : n < l.length := by simpa using hn
  have htl : (l.take n).length = n := by simp; omega
  obtain ⟨Δ, hlen, hT, hall⟩ := walk_all _ _ h
  rw [List.nil_append] at hT
  rw [htl] at hlen
  have hget : ∀ k, k < n → (l.take n)[k]? = l.toArray[k]? := fun k hk => by simp [List.getElem?_take, hk]
  have hΓ : ∀ k, k < n → ∃ o R, l.toArray[k]? = some o ∧ Δ[k]? = some R ∧ Stable R ∧ GOK l.toArray Δ o ∧ Ob P l.toArray n w a Δ o R := by
    intro k hk
    obtain ⟨o, ho⟩ : ∃ o, l.toArray[k]? = some o := ⟨_, Array.getElem?_eq_getElem (by simp; omega)⟩
    obtain ⟨R, h1, h2, h3, h4⟩ := hall k o (by rw [hget k hk, ho])
    rw [List.nil_append] at h3
    refine ⟨o, R, ho, h1, h2, h3.mono (fun g K hK => by
      rw [List.getElem?_take] at hK
      split at hK
      · exact hK
      · cases hK), (h4 (by simp only [List.length_nil, Nat.zero_add]; simp [dst, ho])).mono fun e he K hK => ?_⟩
    rw [List.nil_append] at hK
    rw [List.getElem?_take] at hK
    split at hK
    · exact hK
    · cases hK
  have inv0 : HeadInv .any l.toArray n (Array.replicate l.toArray.size false) :=
    ⟨by simp, fun j oj _ hl => (by rw [getD_replicate_false] at hl; cases hl), fun t _ ht => getD_in (by simpa using ht) (getD_replicate_false _ _)⟩
  have hleft : left n (Array.replicate l.toArray.size false) = n := by
    unfold left
    rw [List.countP_eq_length.2 (fun j _ => by rw [getD_replicate_false]; rfl), List.length_range]
  have hputs : ∀ x, puts l.toArray x (fun _ => true) (List.range n) a = fill (l.take n) 0 x a := fun x => by
    rw [fill_puts (ops := l.toArray) (l.take n) 0 a (fun j hj => by rw [htl] at hj; rw [hget j hj, Nat.zero_add]), htl, List.range_eq_range']
  have H := go (P := P) (Q := Q) (w0 := w) (a0 := a) hok hsz hΓ (fun x W hb hx => by
    have hdl : (l.drop n).length = l.toArray.size - n := by simp
    have := wpAny_of_seq (md := .any) (Q' := Q) (ops := l.toArray) (P := P) (l.drop n) n (Ln n l.toArray.size) (fill (l.take n) 0 x a) W (fun j => by simp [List.getElem?_drop]) (by rw [hdl]; exact hseq)
      (hT x W hb (fun j K hK => hx j (by
        have := (List.getElem?_eq_some_iff.1 hK).1
        omega) K hK))
    rw [hputs x, ← hdl]
    exact this) n _ a { w with drawn := w.drawn + 1 } inv0 hleft ⟨Calm.below_drawn w, fun _ => undef, by
      rw [puts_agree (p' := fun _ => false) (x' := fun _ => undef) (List.range n) a (fun j _ => ⟨getD_replicate_false _ _, fun _ => rfl⟩)]
      exact (show ∀ (L : List Nat) (b : Act), b = puts l.toArray (fun _ => undef) (fun _ => false) L b from fun L => by
        induction L with
        | nil => intro b; rfl
        | cons j L ih => intro b; unfold puts; simpa using ih b) _ _, fun j _ hl => by rw [getD_replicate_false] at hl; cases hl⟩
  refine wp_region_any hm ?_
  have e : n + (l.toArray.size - n) = l.toArray.size := by omega
  rw [e] at H
  exact H
/-! ### As a prover walks it -/
abbrev Ctx := List (Option Tmp × Know)
def dep1 : Option (Option Tmp × Know) → Act → World → Prop
  | some (some t, K), a, W => K (a.eval (.tmp t)) W
  | _, _, _ => True
def deps (Γ : Ctx) (a : Act) (W : World) : List Nat → Prop
  | [] => True
  | j :: js => dep1 Γ[j]? a W ∧ deps Γ a W js
theorem deps_of {Γ : Ctx} {a : Act} {W : World} : ∀ (js : List Nat), (∀ j ∈ js, dep1 Γ[j]? a W) → deps Γ a W js
  | [], _ => trivial
  | j :: js, h => ⟨h j (by simp), deps_of js (fun k hk => h k (by simp [hk]))⟩
def facts (x : Nat → Value) (W : World) : Nat → Ctx → Prop
  | _, [] => True
  | k, (_, K) :: l => K (x k) W ∧ facts x W (k + 1) l
theorem facts_of {x : Nat → Value} {W : World} : ∀ (l : Ctx) (k : Nat), (∀ (j : Nat) (K : Know), (l.map (·.2))[j]? = some K → K (x (k + j)) W) → facts x W k l
  | [], _, _ => trivial
  | (d, K) :: l, k, h => ⟨h 0 K rfl, facts_of l (k + 1) (fun j K' hj => by have := h (j + 1) K' (by simpa using hj); rw [show k + 1 + j = k + (j + 1) by omega]; exact this)⟩
def Ob2 (P : Program) (DS : List Tmp) (w0 : World) (a0 : Act) (Γ : Ctx) (o : Oper) (R : Know) : Prop :=
  ∀ (a : Act) (W : World), Below w0.heap.size w0 W → deps Γ a W (o.after.toList.map (·.on)) → (∀ t, t ∉ DS → a.eval (.tmp t) = a0.eval (.tmp t)) →
    ∀ (K : Act → World → Prop) (Q : Exit → Act → World → Prop), (∀ v W', R v W' → Below W.heap.size W W' → K (a.put o.dst v) W') → o.wp P a W K Q
def walk2 (P : Program) (DS : List Tmp) (w0 : World) (a0 : Act) (T : Ctx → Prop) : Ctx → List Oper → Prop
  | Γ, [] => T Γ
  | Γ, o :: l => ∃ R, Stable R ∧ o.guard = none ∧ Ob2 P DS w0 a0 Γ o R ∧ walk2 P DS w0 a0 T (Γ ++ [(o.dst, R)]) l

theorem binds_true_of (e : Edge) : Region.binds .any e = true ∨ Region.binds .any e = false := by cases Region.binds .any e <;> simp

theorem walk_of_walk2 {n : Nat} {DS : List Tmp} {w0 : World} {a0 : Act} {T : Ctx → Prop} {T' : List Know → Prop} (hDS : ∀ t, t ∉ DS → ∀ j, j < n → dst ops j ≠ some t) (hDS' : ∀ t, (∀ j, j < n → dst ops j ≠ some t) → t ∉ DS)
    (hT : ∀ Γ, T Γ → T' (Γ.map (·.2))) (hbind : ∀ (j : Nat) (o : Oper), ops[j]? = some o → ∀ e ∈ o.after, Region.binds .any e = true) :
    ∀ (l : List Oper) (Γ : Ctx), (∀ j, j < l.length → l[j]? = ops[Γ.length + j]?) → (∀ j d R, Γ[j]? = some (d, R) → dst ops j = d) → walk2 P DS w0 a0 T Γ l → walk P ops n w0 a0 T' (Γ.map (·.2)) l
  | [], Γ, _, _, h => hT Γ h
  | o :: l, Γ, hl, hΓ, h => by
    obtain ⟨R, hs, hg, hob, hw⟩ := h
    have h0 : ops[Γ.length]? = some o := by simpa using (hl 0 (by simp)).symm
    refine ⟨R, hs, .inl hg, fun _ => ?_, ?_⟩
    · intro a W hb hz hd hbase K Q hK
      refine hob a W hb (deps_of _ fun j hj => ?_) (fun t ht => hbase t (hDS t ht)) K Q hK
      obtain ⟨e, he, rfl⟩ := List.mem_map.1 hj
      have he' : e ∈ o.after := by simpa using he
      cases hc : Γ[e.on]? with
      | none => trivial
      | some c =>
        obtain ⟨d, K'⟩ := c
        cases d with
        | none => trivial
        | some t => exact hd e he' (hbind _ _ h0 e he') t (hΓ _ _ _ hc) K' (by simp [hc])
    · have := walk_of_walk2 hDS hDS' hT hbind l (Γ ++ [(o.dst, R)]) (fun j hj => by
        have := hl (j + 1) (by simp; omega)
        simpa [Nat.add_assoc, Nat.add_comm 1 j] using this) (fun j d R' hj => by
        rcases Nat.lt_or_ge j Γ.length with h | h
        · rw [List.getElem?_append_left h] at hj
          exact hΓ j d R' hj
        · have hjl : j < (Γ ++ [(o.dst, R)]).length := (List.getElem?_eq_some_iff.1 hj).1
          obtain rfl : j = Γ.length := by simp at hjl; omega
          simp at hj
          rw [← hj.1]
          simp [dst, h0]) hw
      simpa using this

def bindB (ops : Array Oper) : Bool := ops.all fun o => o.after.all fun e => Region.binds .any e
/-- ████ The region, as a prover walks it. -/
theorem region2 {id : Nat} {Q : Exit → Act → World → Prop} {a : Act} {w : World} {l : List Oper} (n : Nat) (hm : P.follows .mixedOrders = true) (hok : okB l.toArray n = true) (hbind : bindB l.toArray = true) (hsz : sizeB l.toArray n a.tmps.size = true)
    (h : walk2 P ((l.take n).filterMap (·.dst)) w a (fun Γ => ∀ (x : Nat → Value) (W : World), Below w.heap.size w W → facts x W 0 Γ → wpList P l.toArray Q (l.drop n) (fill (l.take n) 0 x a) W) [] (l.take n)) :
    (Code.region id l.toArray true).wp P Q a w := by
  have hn' : n < l.length := by
    simp only [okB, Bool.and_eq_true, decide_eq_true_eq] at hok
    simpa using hok.1.1.1.1.1
  have htl : (l.take n).length = n := by simp; omega
  have hmem : ∀ t, t ∈ (l.take n).filterMap (·.dst) ↔ ∃ j, j < n ∧ dst l.toArray j = some t := by
    intro t
    rw [List.mem_filterMap]
    constructor
    · rintro ⟨o, ho, hd⟩
      obtain ⟨j, hj, hjo⟩ := List.mem_iff_getElem.1 ho
      have hj' : j < n := by rw [htl] at hj; exact hj
      refine ⟨j, hj', ?_⟩
      have : l[j]? = some o := by rw [← hjo, List.getElem_take]; exact List.getElem?_eq_getElem (by omega)
      simp [dst, this, hd]
    · rintro ⟨j, hj, hd⟩
      have hlj : j < l.length := by omega
      simp [dst, hlj] at hd
      exact ⟨l[j], List.mem_iff_getElem.2 ⟨j, by omega, by simp⟩, hd⟩
  refine region n hm hok hsz (walk_of_walk2 (n := n) (fun t ht j hj hd => ht ((hmem t).2 ⟨j, hj, hd⟩)) (fun t ht hin => by
      obtain ⟨j, hj, hd⟩ := (hmem t).1 hin
      exact ht j hj hd) (fun Γ hT x W hb hx => hT x W hb (facts_of Γ 0 (fun j K hj => by rw [Nat.zero_add]; exact hx j K hj))) (fun j o ho e he => ?_) (l.take n) [] (fun j hj => by
      rw [htl] at hj
      simp [List.getElem?_take, hj]) (fun j d R hj => by simp at hj) h)
  have hjl := (Array.getElem?_eq_some_iff.1 ho)
  obtain ⟨h1, h2⟩ := hjl
  have h3 := Array.all_eq_true'.1 hbind o (h2 ▸ Array.getElem_mem h1)
  exact Array.all_eq_true'.1 h3 e he

section
variable {DS : List Tmp} {w0 : World} {a0 : Act} {T : Ctx → Prop} {Γ : Ctx} {o : Oper} {rest : List Oper}
theorem stable_eq (v : Value) : Stable (fun u _ => u = v) := fun _ _ _ h _ => h
/-- One operation that yields v. -/
theorem op (v : Value) (hg : o.guard = none) (h : ∀ (a : Act) (W : World), Below w0.heap.size w0 W → deps Γ a W (o.after.toList.map (·.on)) → (∀ t, t ∉ DS → a.eval (.tmp t) = a0.eval (.tmp t)) → (execOp a.eval o).run P W = .ok (.value v) W)
    (hn : walk2 P DS w0 a0 T (Γ ++ [(o.dst, fun u _ => u = v)]) rest) : walk2 P DS w0 a0 T Γ (o :: rest) :=
  ⟨_, stable_eq v, hg, fun a W hb hd hbase K Q hK => by
    unfold Oper.wp
    rw [h a W hb hd hbase]
    exact hK v W rfl (Below.refl _ _), hn⟩
/-- A call, by a contract: what is known of its result. -/
theorem call (f : FuncId) (args : Array Value) (R : Know) (hs : Stable R) (hg : o.guard = none)
    (h : ∀ (a : Act) (W : World), Below w0.heap.size w0 W → deps Γ a W (o.after.toList.map (·.on)) → (∀ t, t ∉ DS → a.eval (.tmp t) = a0.eval (.tmp t)) → (execOp a.eval o).run P W = .ok (.enter f args) W)
    (hc : ∀ W, Below w0.heap.size w0 W → Calls P f args W fun e W' => ∃ v, e = .returned v ∧ R v W' ∧ Below W.heap.size W W')
    (hn : walk2 P DS w0 a0 T (Γ ++ [(o.dst, R)]) rest) : walk2 P DS w0 a0 T Γ (o :: rest) :=
  ⟨R, hs, hg, fun a W hb hd hbase K Q hK => by
    unfold Oper.wp
    rw [h a W hb hd hbase]
    simp only [Oper.upon]
    refine (hc W hb).mono ?_
    rintro e W' ⟨v, rfl, hR, hb'⟩
    exact hK v W' hR hb', hn⟩
theorem call_eq (v : Value) (f : FuncId) (args : Array Value) (hg : o.guard = none)
    (h : ∀ (a : Act) (W : World), Below w0.heap.size w0 W → deps Γ a W (o.after.toList.map (·.on)) → (∀ t, t ∉ DS → a.eval (.tmp t) = a0.eval (.tmp t)) → (execOp a.eval o).run P W = .ok (.enter f args) W)
    (hc : ∀ W, Below w0.heap.size w0 W → Calls P f args W fun e W' => e = .returned v ∧ Below W.heap.size W W')
    (hn : walk2 P DS w0 a0 T (Γ ++ [(o.dst, fun u _ => u = v)]) rest) : walk2 P DS w0 a0 T Γ (o :: rest) :=
  call f args _ (stable_eq v) hg h (fun W hb => (hc W hb).mono fun e W' ⟨he, hb'⟩ => ⟨v, he, rfl, hb'⟩) hn
/-- A new block that holds just these cells. -/
def New (B : Nat) (cs : Array Value) : Know := fun u W => ∃ g, u = .pointer (some ⟨g, 0, none⟩) ∧ B ≤ g ∧ Calm.Blk W g cs
theorem stable_new (B : Nat) (cs : Array Value) : Stable (New B cs) := fun _ _ _ ⟨g, h1, h2, h3⟩ hb => ⟨g, h1, h2, h3.below hb⟩
theorem alloc (t : TypeId) (cs : Array Value) (hg : o.guard = none)
    (h : ∀ (a : Act) (W : World), (execOp a.eval o).run P W = .ok (.value (.pointer (some ⟨W.heap.size, 0, none⟩))) (W.alloc (.cells cs t)))
    (hn : walk2 P DS w0 a0 T (Γ ++ [(o.dst, New w0.heap.size cs)]) rest) : walk2 P DS w0 a0 T Γ (o :: rest) :=
  ⟨_, stable_new _ cs, hg, fun a W hb hd hbase K Q hK => by
    unfold Oper.wp
    rw [h a W]
    exact hK _ _ ⟨_, rfl, hb.size, Calm.Blk.new W t cs⟩ ((Below.refl _ _).alloc (Nat.le_refl _) _), hn⟩
theorem done (h : T Γ) : walk2 P DS w0 a0 T Γ [] := h
end
end
end Go.Proofs.YtadcmjnebjgijaaGreatDoor.Rel

/- More for regions whose head makes memory: a slice of its own. -/
namespace Go.Proofs.YtadcmjnebjgijaaGreatDoor.Rel
open Go.RowKit
variable {P : Program} {DS : List Tmp} {w0 : World} {a0 : Act} {T : Ctx → Prop} {Γ : Ctx} {o : Oper} {rest : List Oper}
/-- A new slice that holds just these cells. -/
def NewS (B n c : Nat) (cs : Array Value) : Know := fun u W => ∃ g, u = .slice (some ⟨g, 0, none⟩) n c ∧ B ≤ g ∧ Calm.Blk W g cs
theorem stable_newS (B n c : Nat) (cs : Array Value) : Stable (NewS B n c cs) := fun _ _ _ ⟨g, h1, h2, h3⟩ hb => ⟨g, h1, h2, h3.below hb⟩
theorem build (t : TypeId) (n c : Nat) (cs : Array Value) (hg : o.guard = none)
    (h : ∀ (a : Act) (W : World), Below w0.heap.size w0 W → deps Γ a W (o.after.toList.map (·.on)) → (∀ t, t ∉ DS → a.eval (.tmp t) = a0.eval (.tmp t)) → (execOp a.eval o).run P W = .ok (.value (.slice (some ⟨W.heap.size, 0, none⟩) n c)) (W.alloc (.cells cs t)))
    (hn : walk2 P DS w0 a0 T (Γ ++ [(o.dst, NewS w0.heap.size n c cs)]) rest) : walk2 P DS w0 a0 T Γ (o :: rest) :=
  ⟨_, stable_newS _ n c cs, hg, fun a W hb hd hbase K Q hK => by
    unfold Oper.wp
    rw [h a W hb hd hbase]
    exact hK _ _ ⟨_, rfl, hb.size, Calm.Blk.new W t cs⟩ ((Below.refl _ _).alloc (Nat.le_refl _) _), hn⟩
end Go.Proofs.YtadcmjnebjgijaaGreatDoor.Rel
namespace Go.Proofs.YtadcmjnebjgijaaGreatDoor.Calm
open Go.RowKit
theorem Blk.of {w w' : World} {B g : Nat} {cs : Array Value} (h : Blk w g cs) (hg : g < B) (hb : Below B w w') : Blk w' g cs :=
  ⟨Nat.lt_of_lt_of_le h.lt hb.size, fun i => (hb.cell (p := ⟨g, i, none⟩) hg).trans (h.c i), fun i => (hb.frozen (p := ⟨g, i, none⟩) hg).trans (h.f i)⟩
end Go.Proofs.YtadcmjnebjgijaaGreatDoor.Calm

/- The law of 'for x := range seq' over an iterator that keeps a variable of its own in cells; the body never leaves the loop. -/
namespace Go.Proofs.YtadcmjnebjgijaaGreatDoor
open Go.RowKit

/-- Whatever lies in a block of S lies as it lay. -/
def Same (S : Nat → Prop) (W W' : World) : Prop := ∀ k o, S k → W.heap[k]? = some o → W'.heap[k]? = some o
theorem Same.refl (S : Nat → Prop) (W : World) : Same S W W := fun _ _ _ h => h
theorem Same.trans {S : Nat → Prop} {A B C : World} (h : Same S A B) (k : Same S B C) : Same S A C := fun i o hi ho => k i o hi (h i o hi ho)
theorem Same.alloc {S : Nat → Prop} {W W' : World} (h : Same S W W') (o : Obj) : Same S W (W'.alloc o) := fun k o1 hk ho => by
  have h1 := h k o1 hk ho
  exact (Below.heap_alloc _ _ _ (Array.getElem?_eq_some_iff.1 h1).1).trans h1
theorem Same.setCell {S : Nat → Prop} {W W' : World} (h : Same S W W') {p : Addr} (hp : ¬ S p.block) (u : Value) : Same S W (W'.setCell p u) := fun k o1 hk ho =>
  (Below.heap_setCell _ _ _ _ (fun e => hp (e ▸ hk))).trans (h k o1 hk ho)
theorem Same.drew {S : Nat → Prop} {W W' : World} (h : Same S W W') : Same S W W'.drew := h
theorem Same.below {S : Nat → Prop} {W W' W2 : World} (h : Same S W W') {B : Nat} (hb : Below B W' W2) (hS : ∀ k, S k → k < B) : Same S W W2 := fun k o1 hk ho =>
  (hb.block k (hS k hk)).trans (h k o1 hk ho)
theorem Same.grown {S : Nat → Prop} {W W' W2 : World} {row : Option Nat} (h : Same S W W') (hg : W'.grownBy W2 row) (hr : ∀ k, row = some k → ¬ S k) : Same S W W2 := fun k o1 hk ho => by
  have h1 := h k o1 hk ho
  exact (hg.block k (Array.getElem?_eq_some_iff.1 h1).1 (fun e => hr k e.symm hk)).trans h1
theorem Same.eq {S : Nat → Prop} {W W' : World} (h : Same S W W') {k : Nat} (hk : S k) (hl : k < W.heap.size) : W'.heap[k]? = W.heap[k]? := by
  have e := Array.getElem?_eq_getElem hl
  rw [h k _ hk e, e]

/-- The contract of an iterator that is entered with a heap of the size W.heap.size and lays its own block there; block Cb is read. -/
def Iter {α : Type} (F : Fence) (n : Nat) (P : Program) (g : Nat) (lb : Array Value) (enc : α → Value) (all : List α) (Cb : Nat) (w : World) : Prop :=
  ∀ (l : Nat) (J : List α → World → Prop) (W : World), W.heap[Cb]? = w.heap[Cb]? → Cb < w.heap.size → w.heap.size ≤ W.heap.size →
    (∀ pre W1 o, J pre W1 → J pre (W1.alloc o)) →
    (∀ pre W1 i v, J pre W1 → J pre (W1.setCell ⟨W.heap.size, i, none⟩ v)) →
    (∀ pre x W1, J pre W1 → W.heap.size < W1.heap.size → W1.heap[Cb]? = w.heap[Cb]? → (∃ post, all = pre ++ x :: post) →
      YieldAt F (n - 1) P l #[enc x] W1 fun e W' => e = .returned (.bool true) ∧ J (pre ++ [x]) W' ∧ W'.heap[W.heap.size]? = W1.heap[W.heap.size]? ∧ W'.heap[Cb]? = W1.heap[Cb]?) →
    J [] W →
    CallsIn F n P g (#[.func (.yield l) #[] #[]] ++ lb) W fun e W' => (∃ v, e = .returned v) ∧ J all W'

/-- How a body that never leaves the loop may end. -/
def iterPost (S : Nat → Prop) (W : World) (I : World → Prop) : Exit → Act → World → Prop
  | .normal, _, W' => Same S W W' ∧ I W'
  | _, _, _ => False

/-- the blocks that a round must leave alone: the three of the loop, from B on, and Cb. -/
def roundS (Cb B : Nat) (k : Nat) : Prop := k = Cb ∨ k = B ∨ k = B + 1 ∨ k = B + 2

theorem range_iter {F : Fence} {n : Nat} {P : Program} {α : Type} {g : Operand} {ps : Array Tmp} {assign body : Code} {Q : Exit → Act → World → Prop} {a : Act} {w : World}
    (hro : F.round = none) (h1 : 1 ≤ n) {gf : Nat} {lb : Array Value} (hg : a.eval g = .func (.func gf) #[] lb) (hFg : F.fn gf) (eg : ∀ args w, (callFunc gf args).run P w = .ok (.enter gf args) w)
    {enc : α → Value} {all : List α} {Cb : Nat} (hC : Cb < w.heap.size) (hseq : Iter F (n - 1) P gf lb enc all Cb w) (hps : ps.size = 1)
    (I : List α → World → Prop) (hI : OwnFrom w.heap.size I) (hIs : ∀ pre W i v, I pre W → I pre (W.setCell ⟨w.heap.size + 2, i, none⟩ v)) (h0 : I [] w)
    (Ax : List α → α → Act → World → Prop) (hAx : ∀ pre x a', OwnFrom w.heap.size (fun (_ : Unit) W => Ax pre x a' W))
    (hassign : ∀ (l : Nat) (pre : List α) (x : α) (W : World), I pre W → (∃ post, all = pre ++ x :: post) → w.heap.size + 2 < W.heap.size → W.heap[Cb]? = w.heap[Cb]? →
      assign.wpIn (F.inRound l) (n - 1 - 1) P (Exit.then (fun a' W' => Same (roundS Cb w.heap.size) W W' ∧ Ax pre x a' W') (fun _ _ _ => False)) { tmps := (ps.zip #[enc x]).foldl (fun t (p, v) => t.setIfInBounds p v) a.tmps, defers := [] } W)
    (hbody : ∀ (l : Nat) (pre : List α) (x : α) (a' : Act) (W : World), Ax pre x a' W → (∃ post, all = pre ++ x :: post) → w.heap.size + 2 < W.heap.size → W.heap[Cb]? = w.heap[Cb]? →
      body.wpIn (F.inRound l) (n - 1 - 1) P (iterPost (roundS Cb w.heap.size) W (I (pre ++ [x]))) a' W)
    (hdone : ∀ (W : World), I all W → W.heap[w.heap.size]? = some (.deferred (some [])) → Q .normal { a with defers := { target := .collected w.heap.size, args := #[] } :: a.defers } W) :
    (Code.rangeFunc g ps assign body).wpIn F n P Q a w := by
  refine wpIn_rangeFunc ?_
  intro fn hfn
  rw [hro]
  obtain ⟨rec, hrec⟩ : ∃ rec : LoopState → Option Code → Loop, rec = fun st pe => { state := st, pending := pe, fn, tmps := a.tmps, params := ps, assign, body, defers := w.heap.size } := ⟨_, rfl⟩
  obtain ⟨W1, hW1⟩ : ∃ W1, (w.alloc (.deferred (some []))).alloc (.loop (rec .ready none)) = W1 := ⟨_, rfl⟩
  have hL1 : W1.heap[w.heap.size + 1]? = some (.loop (rec .ready none)) := by
    rw [← hW1]; have := World.alloc_heap_new (w.alloc (.deferred (some []))) (.loop (rec .ready none)); rwa [World.size_alloc] at this
  have hK1 : W1.heap[w.heap.size]? = some (.deferred (some [])) := by
    rw [← hW1]; exact (Below.heap_alloc _ _ _ (by simp)).trans (World.alloc_heap_new w _)
  have hI1 : I [] W1 := by rw [← hW1]; exact hI.alloc _ (hI.alloc _ h0)
  have hC1 : W1.heap[Cb]? = w.heap[Cb]? := by
    rw [← hW1, Below.heap_alloc _ _ _ (by simp; omega), Below.heap_alloc _ _ _ hC]
  have hs1 : W1.heap.size = w.heap.size + 2 := by rw [← hW1]; simp
  refine ⟨w.heap.size + 1, [{ target := .collected w.heap.size, args := #[] }], W1, { target := .fn (.func gf) lb, args := #[.func (.yield (w.heap.size + 1)) #[] #[]] }, W1, gf,
    #[.func (.yield (w.heap.size + 1)) #[] #[]] ++ lb, W1, ?_, ?_, ?_, ?_, fun _ => h1, ?_⟩
  · rw [← hW1, hrec]; exact run_enterLoop_outer _ _ _ _ _
  · simp only [resolve, hg]
    simp [go_sem]
  · intro f' hf'; simp [Target.leads] at hf'; subst hf'; exact hFg
  · simp [invoke, go_sem, eg]
  · refine (hseq (w.heap.size + 1)
      (fun pre W => I pre W ∧ W.heap[w.heap.size + 1]? = some (.loop (rec .ready none)) ∧ W.heap[w.heap.size]? = some (.deferred (some [])))
      W1 hC1 hC (by omega)
      (fun pre A o hs => ⟨hI.alloc _ hs.1, (Below.heap_alloc _ _ _ (Array.getElem?_eq_some_iff.1 hs.2.1).1).trans hs.2.1, (Below.heap_alloc _ _ _ (Array.getElem?_eq_some_iff.1 hs.2.2).1).trans hs.2.2⟩)
      (fun pre A i v hs => ⟨by rw [hs1]; exact hIs _ _ _ _ hs.1, (Below.heap_setCell _ _ _ _ (by rw [hs1]; intro e; simp at e)).trans hs.2.1, (Below.heap_setCell _ _ _ _ (by rw [hs1]; intro e; simp at e)).trans hs.2.2⟩)
      ?_ ⟨hI1, hL1, hK1⟩).mono ?_
    · -- ONE ROUND
      rintro pre x W ⟨hi, hl, hk⟩ hsz hcb hpost
      rw [hs1] at hsz ⊢
      have hlt : w.heap.size + 1 < W.heap.size := by omega
      have hy := run_yield (P := P) (args := #[enc x]) hl (by rw [hrec]; simp [hps])
      rw [hrec] at hy
      refine ⟨fn, _, assign, body, hy, roundIn_of_wpIn hfn (wpIn_mono (hassign _ pre x W hi hpost hsz hcb) ?_)⟩
      clear hy
      rintro e a' Wa hq
      cases e with
      | normal =>
        obtain ⟨hS, hax⟩ := hq
        have hl' := hS _ _ (.inr (.inr (.inl rfl))) hl
        have hk' := hS _ _ (.inr (.inl rfl)) hk
        have hsz' : w.heap.size + 2 < Wa.heap.size := by
          have := hS (w.heap.size + 2) _ (.inr (.inr (.inr rfl))) (Array.getElem?_eq_getElem hsz)
          exact (Array.getElem?_eq_some_iff.1 this).1
        have hcl : Cb < W.heap.size := by omega
        have hcb' : Wa.heap[Cb]? = w.heap[Cb]? := (hS.eq (.inl rfl) hcl).trans hcb
        have hD' : Wa.heap[w.heap.size + 2]? = W.heap[w.heap.size + 2]? := hS.eq (.inr (.inr (.inr rfl))) hsz
        refine ⟨_, run_beginRound hl' (by rw [hrec]), ?_⟩
        obtain ⟨Wb, hWb⟩ : ∃ Wb, Wa.putObj (w.heap.size + 1) (.loop { rec .ready none with state := .busy }) = Wb := ⟨_, rfl⟩
        have hl2 : Wb.heap[w.heap.size + 1]? = some (.loop { rec .ready none with state := .busy }) := by rw [← hWb]; exact World.putObj_heap_same (by omega)
        have hk2 : Wb.heap[w.heap.size]? = some (.deferred (some [])) := by rw [← hWb]; exact (World.putObj_heap_other (by omega)).trans hk'
        have hcb2 : Wb.heap[Cb]? = w.heap[Cb]? := by rw [← hWb]; exact (World.putObj_heap_other (by omega)).trans hcb'
        have hD2 : Wb.heap[w.heap.size + 2]? = W.heap[w.heap.size + 2]? := by rw [← hWb]; exact (World.putObj_heap_other (by omega)).trans hD'
        have hsz2 : w.heap.size + 2 < Wb.heap.size := by rw [← hWb]; simpa using hsz'
        have hax2 : Ax pre x a' Wb := by rw [← hWb]; exact (hAx pre x a').putObj (s := ()) _ hax (by omega) hl' rfl
        show body.wpIn _ _ _ _ _ (Wa.putObj (w.heap.size + 1) (.loop { rec .ready none with state := .busy }))
        rw [hWb]
        refine wpIn_mono (hbody _ pre x a' Wb hax2 hpost hsz2 hcb2) ?_
        rintro e a3 W3 hp
        cases e with
        | normal =>
          obtain ⟨hS3, hi3⟩ := hp
          have hl3 := hS3 _ _ (.inr (.inr (.inl rfl))) hl2
          have hk3 := hS3 _ _ (.inr (.inl rfl)) hk2
          have hr := run_endRound (P := P) none hl3
          have hC3 : W3.heap[Cb]? = W.heap[Cb]? := ((hS3.eq (.inl rfl) (by omega)).trans hcb2).trans hcb.symm
          have hD3 : W3.heap[w.heap.size + 2]? = W.heap[w.heap.size + 2]? := (hS3.eq (.inr (.inr (.inr rfl))) hsz2).trans hD2
          rw [hrec] at hr
          refine ⟨_, _, hr, rfl, ⟨hI.putObj _ hi3 (by omega) hl3 rfl, ?_, ?_⟩, ?_, ?_⟩
          · rw [hrec]; exact World.putObj_heap_same (Array.getElem?_eq_some_iff.1 hl3).1
          · exact (World.putObj_heap_other (by omega)).trans hk3
          · exact (World.putObj_heap_other (by omega)).trans hD3
          · exact (World.putObj_heap_other (by omega)).trans hC3
        | exit id => exact hp.elim
        | goto t => exact hp.elim
        | ret => exact hp.elim
        | panic ch => exact hp.elim
        | outgrown => exact hp.elim
      | exit id => exact hq.elim
      | goto t => exact hq.elim
      | ret => exact hq.elim
      | panic ch => exact hq.elim
      | outgrown => exact hq.elim
    · -- BEHIND THE ITERATOR
      rintro e W2 ⟨⟨v, rfl⟩, hi, hl, hk⟩
      exact ⟨none, _, by have := run_endLoop (P := P) hl (by rw [hrec]; simp); rw [hrec] at this; exact this, hdone _ (hI.putObj _ hi (by omega) hl rfl) ((World.putObj_heap_other (by omega)).trans hk)⟩
end Go.Proofs.YtadcmjnebjgijaaGreatDoor

/- The drivers of a class as a list: plain. -/
namespace Go.Proofs.YtadcmjnebjgijaaGreatDoor
open Go.RowKit

def rowL (ma st lo : Int) (k : Nat) : List (Int × Int × Int) := (List.range k).map fun (i : Nat) => (ma, st, lo + i)
def rowS (ma st lo : Int) (L k : Nat) : List (Int × Int × Int) := (List.range k).flatMap fun (j : Nat) => rowL ma (st + j) lo L
def rowM (ma st lo : Int) (S L k : Nat) : List (Int × Int × Int) := (List.range k).flatMap fun (i : Nat) => rowS (ma + i) st lo L S
theorem rowL_succ (ma st lo : Int) (k : Nat) : rowL ma st lo (k + 1) = rowL ma st lo k ++ [(ma, st, lo + k)] := by simp [rowL, List.range_succ]
theorem rowS_succ (ma st lo : Int) (L k : Nat) : rowS ma st lo L (k + 1) = rowS ma st lo L k ++ rowL ma (st + k) lo L := by simp [rowS, List.range_succ]
theorem rowM_succ (ma st lo : Int) (S L k : Nat) : rowM ma st lo S L (k + 1) = rowM ma st lo S L k ++ rowS (ma + k) st lo L S := by simp [rowM, List.range_succ]
theorem pre_of_succ {f : Nat → List (Int × Int × Int)} (h : ∀ k, ∃ t, f (k + 1) = f k ++ t) {a b : Nat} (hab : a ≤ b) : ∃ t, f b = f a ++ t := by
  induction hab with
  | refl => exact ⟨[], by simp⟩
  | step _ ih =>
    obtain ⟨t, ht⟩ := ih
    obtain ⟨t', ht'⟩ := h _
    exact ⟨t ++ t', by rw [ht', ht, List.append_assoc]⟩
theorem row_next (ma st lo : Int) (M S L i j k : Nat) (hi : i < M) (hj : j < S) (hk : k < L) :
    ∃ post, rowM ma st lo S L M = (rowM ma st lo S L i ++ rowS (ma + i) st lo L j ++ rowL (ma + i) (st + j) lo k) ++ (ma + i, st + j, lo + k) :: post := by
  obtain ⟨t1, h1⟩ := pre_of_succ (f := rowM ma st lo S L) (fun k => ⟨_, rowM_succ _ _ _ _ _ _⟩) (show i + 1 ≤ M from hi)
  obtain ⟨t2, h2⟩ := pre_of_succ (f := rowS (ma + i) st lo L) (fun k => ⟨_, rowS_succ _ _ _ _ _⟩) (show j + 1 ≤ S from hj)
  obtain ⟨t3, h3⟩ := pre_of_succ (f := rowL (ma + i) (st + j) lo) (fun k => ⟨_, rowL_succ _ _ _ _⟩) (show k + 1 ≤ L from hk)
  refine ⟨t3 ++ (t2 ++ t1), ?_⟩
  rw [h1, rowM_succ, h2, rowS_succ, h3, rowL_succ]
  simp
/-- the drivers of a class, in the order of the program. -/
def drvs (ma st lo m k r : Int) : List (Int × Int × Int) := rowM ma st lo (k + 1 - st).toNat (r + 1 - lo).toNat (m + 1 - ma).toNat
theorem mem_drvs {ma st lo m k r : Int} {x : Int × Int × Int} (h : x ∈ drvs ma st lo m k r) : (ma ≤ x.1 ∧ x.1 ≤ m) ∧ (st ≤ x.2.1 ∧ x.2.1 ≤ k) ∧ (lo ≤ x.2.2 ∧ x.2.2 ≤ r) := by
  simp only [drvs, rowM, rowS, rowL, List.mem_flatMap, List.mem_map, List.mem_range] at h
  obtain ⟨i, hi, j, hj, l, hl, rfl⟩ := h
  simp only
  omega
theorem drvs_len (ma st lo m k r : Int) : (drvs ma st lo m k r).length = (m + 1 - ma).toNat * ((k + 1 - st).toNat * (r + 1 - lo).toNat) := by
  have e : ∀ (l : List Nat) (n : Nat), (l.map fun _ => n).sum = l.length * n := by
    intro l n
    induction l with
    | nil => simp
    | cons a l ih => simp [ih, Nat.succ_mul, Nat.add_comm]
  simp [drvs, rowM, rowS, rowL, List.length_flatMap, e]
end Go.Proofs.YtadcmjnebjgijaaGreatDoor
