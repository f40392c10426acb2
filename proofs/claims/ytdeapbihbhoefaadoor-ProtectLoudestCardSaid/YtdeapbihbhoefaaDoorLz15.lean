/- Part 15 of the texts of the claim: Shelf, Y12, Flat, LaidZ. -/
import Derived.Shelf.Strings.Builder1
import Derived.Shelf.Strings.Builder2
import Derived.Shelf.Strings.OnBuilder
import Derived.Shelf.Strconv.Itoa0
import Derived.Shelf.Strconv.Itoa1
import Derived.Shelf.LaysM
import Derived.Shelf.Strconv.Itoa2
import Derived.Shelf.Strconv.Itoa3
import Derived.Test.YtdeapbihbhoefaaDoorProg
import Derived.Test.YtdeapbihbhoefaaDoorLz14
import Derived.Lib.LaidTab
import Derived.Lib.ItoaLen
import Derived.Laws.OwnMore
import Derived.WalkKit
import Derived.ProofKit
import Derived.OpenShut
import Derived.Below
import Derived.Carry
import Derived.ChangeSame
import Derived.Test.YtdeapbihbhoefaaDoorCards
import Derived.Test.YtdeapbihbhoefaaDoorTie
import Derived.Deep.DeepHandedRow
import Derived.Deep.Slices
import Derived.LaidMore
import Derived.Shelf.Vars

/- Contracts of the library at this program, in plain words (written by the kit's own tool, cut to what is used). -/
namespace Go.Proofs
open Go.Shelf
def Tryd.lays156_ren : Go.Shelf.Ren := ⟨fun | 156 => 101 | 165 => 108 | 166 => 109 | 169 => 110 | 240 => 113 | 241 => 114 | 276 => 119 | 277 => 120 | n => n, fun | 31 => 127 | 9 => 9 | 3 => 3 | 4 => 4 | 0 => 0 | 20 => 20 | 72 => 140 | 76 => 144 | 70 => 137 | 37 => 138 | 75 => 143 | 127 => 153 | 164 => 160 | 5 => 5 | 80 => 146 | n => n, fun | n => n⟩
theorem Tryd.lays156 : Go.Proofs.Lays.n156 Tryd.prog Tryd.lays156_ren := {
  mixed := by kernel_rfl
  f156 := Tryd.func101.trans (congrArg some (by kernel_rfl))
  f165 := Tryd.func108.trans (congrArg some (by kernel_rfl))
  f166 := Tryd.func109.trans (congrArg some (by kernel_rfl))
  f169 := Tryd.func110.trans (congrArg some (by kernel_rfl))
  f240 := Tryd.func113.trans (congrArg some (by kernel_rfl))
  f241 := Tryd.func114.trans (congrArg some (by kernel_rfl))
  f276 := Tryd.func119.trans (congrArg some (by kernel_rfl))
  f277 := Tryd.func120.trans (congrArg some (by kernel_rfl))
  t0 := Tryd.underlying0
  a0 := Tryd.isAgg0
  z0 := Tryd.sizeOf0
  v0 := Tryd.zeroValue0
  t3 := Tryd.underlying3
  a3 := Tryd.isAgg3
  z3 := Tryd.sizeOf3
  v3 := Tryd.zeroValue3
  t4 := Tryd.underlying4
  a4 := Tryd.isAgg4
  z4 := Tryd.sizeOf4
  v4 := Tryd.zeroValue4
  t9 := Tryd.underlying9
  a9 := Tryd.isAgg9
  z9 := Tryd.sizeOf9
  v9 := Tryd.zeroValue9
  t20 := Tryd.underlying20
  a20 := Tryd.isAgg20
  z20 := Tryd.sizeOf20
  v20 := Tryd.zeroValue20
  t31 := Tryd.underlying127
  a31 := Tryd.isAgg127
  z31 := Tryd.sizeOf127
  v31 := Tryd.zeroValue127
  t37 := Tryd.underlying138
  a37 := Tryd.isAgg138
  z37 := Tryd.sizeOf138
  v37 := Tryd.zeroValue138
  t70 := Tryd.underlying137
  a70 := Tryd.isAgg137
  z70 := Tryd.sizeOf137
  v70 := Tryd.zeroValue137
  t72 := Tryd.underlying140
  a72 := Tryd.isAgg140
  z72 := Tryd.sizeOf140
  v72 := Tryd.zeroValue140
  t75 := Tryd.underlying143
  a75 := Tryd.isAgg143
  z75 := Tryd.sizeOf143
  v75 := Tryd.zeroValue143
  t76 := Tryd.underlying144
  a76 := Tryd.isAgg144
  z76 := Tryd.sizeOf144
  v76 := Tryd.zeroValue144
  t127 := Tryd.underlying153
  a127 := Tryd.isAgg153
  z127 := Tryd.sizeOf153
  v127 := Tryd.zeroValue153
  t164 := Tryd.underlying160
  a164 := Tryd.isAgg160
  z164 := Tryd.sizeOf160
  v164 := Tryd.zeroValue160 }
theorem Tryd.Builder_Extra_156 : Builder.Extra Tryd.prog Tryd.lays156_ren := {
  sizeBuilder := by kernel_rfl
  liesBuilder := by kernel_rfl
  t5 := Tryd.underlying5
  a5 := Tryd.isAgg5
  z5 := Tryd.sizeOf5
  v5 := Tryd.zeroValue5
  infoByte := by kernel_rfl
  cellsByte := by kernel_rfl
  sizeByte := by kernel_rfl
  neB5 := by decide }
open Go.RowKit in
theorem Tryd.strings_Join (bk o c : Nat) (xs : List ByteArray) (sep : ByteArray) (w : World) (hcells : ∀ (j : Nat) x, xs[j]? = some x → w.cell? ⟨bk, o + j, none⟩ = some (.string x)) (hbk : bk < w.heap.size) (hN : xs.length ≤ 140737488355328) (hcap : xs.length ≤ c) (hlen : (Lib.join (xs.map (·.data.toList)) sep.data.toList).length ≤ 140737488355328) :
    Calls Tryd.prog 101 #[.slice (some ⟨bk, o, none⟩) xs.length c, .string sep] w fun e w' => e = .returned (.string ⟨(Lib.join (xs.map (·.data.toList)) sep.data.toList).toArray⟩) ∧ Below w.heap.size w w' := Any.strings_Join Tryd.lays156 Tryd.Builder_Extra_156 bk o c xs sep w hcells hbk hN hcap hlen
def Tryd.laysM171_ren : Go.Shelf.Ren := ⟨fun | 171 => 99 | 243 => 107 | 246 => 112 | 283 => 115 | 284 => 116 | 285 => 117 | 286 => 118 | 129 => 122 | 317 => 121 | 318 => 123 | 319 => 124 | 320 => 125 | 337 => 126 | 338 => 127 | n => n, fun | 3 => 3 | 9 => 9 | 2 => 2 | 4 => 4 | 171 => 154 | 0 => 0 | 53 => 155 | 37 => 138 | 5 => 5 | 173 => 158 | 212 => 164 | 51 => 165 | 20 => 20 | 213 => 166 | 46 => 168 | 232 => 171 | 233 => 172 | n => n, fun | 17 => 1 | 18 => 3 | 19 => 4 | n => n⟩
theorem Tryd.laysM171 : Go.Proofs.LaysM.n171 Tryd.prog Tryd.laysM171_ren := {
  mixed := by kernel_rfl
  f129 := Tryd.func122.trans (congrArg some (by kernel_rfl))
  f171 := Tryd.func99.trans (congrArg some (by kernel_rfl))
  f243 := Tryd.func107.trans (congrArg some (by kernel_rfl))
  f246 := Tryd.func112.trans (congrArg some (by kernel_rfl))
  f283 := Tryd.func115.trans (congrArg some (by kernel_rfl))
  f284 := Tryd.func116.trans (congrArg some (by kernel_rfl))
  f285 := Tryd.func117.trans (congrArg some (by kernel_rfl))
  f286 := Tryd.func118.trans (congrArg some (by kernel_rfl))
  f317 := Tryd.func121.trans (congrArg some (by kernel_rfl))
  f318 := Tryd.func123.trans (congrArg some (by kernel_rfl))
  f319 := Tryd.func124.trans (congrArg some (by kernel_rfl))
  f320 := Tryd.func125.trans (congrArg some (by kernel_rfl))
  f337 := Tryd.func126.trans (congrArg some (by kernel_rfl))
  f338 := Tryd.func127.trans (congrArg some (by kernel_rfl))
  t0 := Tryd.underlying0
  a0 := Tryd.isAgg0
  z0 := Tryd.sizeOf0
  v0 := Tryd.zeroValue0
  t2 := Tryd.underlying2
  a2 := Tryd.isAgg2
  z2 := Tryd.sizeOf2
  v2 := Tryd.zeroValue2
  t3 := Tryd.underlying3
  a3 := Tryd.isAgg3
  z3 := Tryd.sizeOf3
  v3 := Tryd.zeroValue3
  t4 := Tryd.underlying4
  a4 := Tryd.isAgg4
  z4 := Tryd.sizeOf4
  v4 := Tryd.zeroValue4
  t5 := Tryd.underlying5
  a5 := Tryd.isAgg5
  z5 := Tryd.sizeOf5
  v5 := Tryd.zeroValue5
  t9 := Tryd.underlying9
  a9 := Tryd.isAgg9
  z9 := Tryd.sizeOf9
  v9 := Tryd.zeroValue9
  t20 := Tryd.underlying20
  a20 := Tryd.isAgg20
  z20 := Tryd.sizeOf20
  v20 := Tryd.zeroValue20
  t37 := Tryd.underlying138
  a37 := Tryd.isAgg138
  z37 := Tryd.sizeOf138
  v37 := Tryd.zeroValue138
  t46 := Tryd.underlying168
  a46 := Tryd.isAgg168
  z46 := Tryd.sizeOf168
  v46 := Tryd.zeroValue168
  t51 := Tryd.underlying165
  a51 := Tryd.isAgg165
  z51 := Tryd.sizeOf165
  v51 := Tryd.zeroValue165
  t53 := Tryd.underlying155
  a53 := Tryd.isAgg155
  z53 := Tryd.sizeOf155
  v53 := Tryd.zeroValue155
  t171 := Tryd.underlying154
  a171 := Tryd.isAgg154
  z171 := Tryd.sizeOf154
  v171 := Tryd.zeroValue154
  t173 := Tryd.underlying158
  a173 := Tryd.isAgg158
  z173 := Tryd.sizeOf158
  v173 := Tryd.zeroValue158
  t212 := Tryd.underlying164
  a212 := Tryd.isAgg164
  z212 := Tryd.sizeOf164
  v212 := Tryd.zeroValue164
  t213 := Tryd.underlying166
  a213 := Tryd.isAgg166
  z213 := Tryd.sizeOf166
  t232 := Tryd.underlying171
  a232 := Tryd.isAgg171
  z232 := Tryd.sizeOf171
  v232 := Tryd.zeroValue171
  t233 := Tryd.underlying172
  a233 := Tryd.isAgg172
  z233 := Tryd.sizeOf172
  v233 := Tryd.zeroValue172
  g17 := by kernel_rfl
  g18 := by kernel_rfl
  g19 := by kernel_rfl
  i0 := by kernel_rfl
  i2 := by kernel_rfl
  i3 := by kernel_rfl
  i4 := by kernel_rfl
  i5 := by kernel_rfl
  i9 := by kernel_rfl
  i20 := by kernel_rfl
  i37 := by kernel_rfl
  i46 := by kernel_rfl
  i51 := by kernel_rfl
  i53 := by kernel_rfl
  i171 := by kernel_rfl
  i173 := by kernel_rfl
  i212 := by kernel_rfl
  i232 := by kernel_rfl
  i233 := by kernel_rfl
  m17 := by kernel_rfl
  m18 := by kernel_rfl
  m19 := by kernel_rfl }
open Go.RowKit Go.Sort Go.Lib in
theorem Tryd.strconv_Itoa (n : Int) (h0 : -9223372036854775808 ≤ n) (h1 : n ≤ 9223372036854775807) (w : World) (htab : Lib.TabIs Tryd.prog w "internal/strconv.uint64pow10" .u64 Lib.pow10Tab) :
    Calls Tryd.prog 99 #[.int .i64 n] w fun e w' => e = .returned (.string ⟨(Lib.itoa n).toArray⟩) ∧ ∃ k os, w' = grow (w.drewN k) os := Any.strconv_Itoa Tryd.laysM171 n h0 h1 w htab
end Go.Proofs

/- Contract of Print: a guard's words, joined. -/
namespace Go.Proofs.YtdeapbihbhoefaaDoor
open Calm (bcell Blk)
open Go.RowKit

/-- what the library's and the program's variables hold. -/
structure PTab (w : World) : Prop where
  lim : Lim w
  pow : Lib.TabIs Tryd.prog w "internal/strconv.uint64pow10" .u64 Lib.pow10Tab
theorem gPow : Tryd.prog.globalNamed "internal/strconv.uint64pow10" = some 1 := by kernel_rfl
theorem var_lt {P : Program} {w : World} {n : String} {g : Nat} {cs : Array Value} (hg : P.globalNamed n = some g) (h : w.var? P n = some cs) : g < w.heap.size := by
  unfold World.var? at h
  rw [hg] at h
  simp only [Option.bind_some] at h
  rcases Nat.lt_or_ge g w.heap.size with h1 | h1
  · exact h1
  · rw [Array.getElem?_eq_none h1] at h
    simp at h
theorem PTab.below {w w' : World} (h : PTab w) (hb : Below w.heap.size w w') : PTab w' := ⟨h.lim.below hb, var?_below hb gPow (var_lt gPow h.pow) h.pow⟩
theorem below_grow (w : World) (n : Nat) (os : Array Obj) : Below w.heap.size w (Go.Sort.grow (w.drewN n) os) := by
  have h := below_drewN (Below.refl w.heap.size w) n
  refine ⟨h.os, h.tape, h.output, ?_, fun k hk => ?_⟩
  · show _ ≤ ((w.drewN n).heap ++ os).size
    have := h.size
    rw [Array.size_append]; omega
  · have e : (Go.Sort.grow (w.drewN n) os).heap[k]? = ((w.drewN n).heap ++ os)[k]? := rfl
    rw [e, Array.getElem?_append_left (Nat.lt_of_lt_of_le hk h.size)]
    exact h.block k hk
/-- a text as a value. -/
def sv (l : List UInt8) : Value := .string ⟨l.toArray⟩
theorem itoa_any (n : Int) (w : World) (hT : PTab w) (h0 : -9223372036854775808 ≤ n) (h1 : n ≤ 9223372036854775807) :
    Calls Tryd.prog 99 #[(.int .i64 n)] w fun r w' => r = .returned (sv (Lib.itoa n)) ∧ Below w.heap.size w w' :=
  (Tryd.strconv_Itoa n h0 h1 w hT.pow).mono fun _ _ ⟨h, k, os, e⟩ => ⟨h, e ▸ below_grow w k os⟩
theorem Tryd.infoS : (Tryd.prog.info? 9).map (fun i => (i.zero, i.size, i.bytes)) = some (some (.string ⟨#[]⟩), 1, 16) := by kernel_rfl
/-- an integer that a register holds. -/
def inW (l : List Int) : Prop := ∀ k : Nat, -9223372036854775808 ≤ l.getD k 0 ∧ l.getD k 0 ≤ 9223372036854775807
def strK (l : List Int) (k : Nat) : List Value := (l.take k).map fun n => sv (Lib.itoa n)
theorem strK_len {l : List Int} {k : Nat} (hk : k ≤ l.length) : (strK l k).length = k := by simp [strK]; omega
theorem strK_succ {l : List Int} {k : Nat} (hk : k < l.length) : strK l (k + 1) = strK l k ++ [sv (Lib.itoa (l.getD k 0))] := by
  unfold strK
  rw [List.take_succ_eq_append_getElem hk, List.map_append, List.getD_eq_getElem?_getD, List.getElem?_eq_getElem hk]
  rfl

set_option maxRecDepth 100000 in
set_option maxHeartbeats 2000000 in
theorem mappedS_any (A : Option Addr) (l : List Int) (N c : Nat) (w : World) (hN : N = l.length) (hT : PTab w) (hC : Cells w A l) (hn : N ≤ 5000) (hb : inW l) :
    Calls Tryd.prog 100 #[.slice A N c, .func (.func 99) #[] #[]] w fun r w' =>
      (∃ v, r = .returned v ∧ w'.ownsRow w.heap.size 9 1 v N (l.map fun n => sv (Lib.itoa n))) ∧ Below w.heap.size w w' := by
  obtain ⟨i0, hii, hz0, hz1, hz2⟩ := info_parts Tryd.infoS
  have HC := Lib.hid hC
  have HT := Lib.hid hT
  have HN := Lib.hid hN
  have HW := Lib.hid hb
  have HL : Hid (∀ k, k ≤ N → (strK l k).length = k) := Lib.hid (fun k hk => strK_len (by rw [← hN]; exact hk))
  clear hN hC hT hb
  go_enter Tryd.func100, Tryd.ntmps100
  go_wp2
  go_loopw [5, 10] (fun v i wr => ∃ k : Nat, k ≤ N ∧ i = (.int .i64 ((k : Int))) ∧ wr.ownsRow w.heap.size 9 1 v (strK l k).length (strK l k) ∧ Below w.heap.size w wr) (fun _ i _ => N - (RowKit.intOf i).toNat)
  case atStart => exact ⟨0, Nat.zero_le _, rfl, World.ownsRow_nil _ _ _ _, Below.refl _ _⟩
  case round =>
    obtain ⟨k, hk, rfl, hown, hB⟩ := hrel
    have HO := Lib.hid hown
    have hle := Lib.hid (HL.out k hk)
    have hsz := hB.size
    have HB := Lib.hid hB
    clear hown
    by_cases hlt : k < N
    · obtain ⟨b, o, rfl, l1, k1⟩ := HC.out (by rw [← HN.out]; omega)
      have x1 := (hB.cell (p := ⟨b, o + k, none⟩) l1).trans (k1 k (by rw [← HN.out]; exact hlt))
      have HS := Lib.hid (strK_succ (l := l) (k := k) (by rw [← HN.out]; exact hlt))
      obtain ⟨w1, w2⟩ := HW.out k
      obtain ⟨x, hx⟩ : ∃ x, x = l.getD k 0 := ⟨_, rfl⟩
      rw [← hx] at x1 HS w1 w2
      unfold sv at HS
      obtain ⟨S, hS⟩ : ∃ S : ByteArray, S = ⟨(Lib.itoa x).toArray⟩ := ⟨_, rfl⟩
      have HIT : Hid (∀ W, PTab W → Calls Tryd.prog 99 #[(.int .i64 x)] W fun r w' => r = .returned (.string S) ∧ Below W.heap.size W w') := Lib.hid (fun W h => by rw [hS]; exact itoa_any x W h w1 w2)
      rw [← hS] at HS
      clear k1 hx hS hB
      go_wp2_with (first
        | (go_at_call 99; refine (HIT.out _ (HT.out.below HB.out)).mono ?_; rintro r w3 ⟨rfl, hb3⟩; have HB3 := Lib.hid (HB.out.trans (hb3.mono hsz)); have HO3 := Lib.hid (ownsRow_below HO.out hb3); have hs3 := hb3.size; clear hb3)
        | (at_builtin; refine wpList_append_own _ rfl _ _ 127 rfl w.heap.size 9 i0 (.string ⟨#[]⟩) 1 16 Tryd.underlying127 hii hz0 hz1 hz2 rfl (by decide) _ _ _ rfl (HO3.out.alloc _) ⟨w3.heap.size, 0, none⟩ 1 1 [.string S] rfl rfl ?c1 ?c2 ?c3 ?c4 ?c5 ?_))
      case c1 =>
        intro j u hj
        match j, hj with
        | 0, hj => simp at hj; subst hj; simp [Addr.add]
      case c2 => intro u hu; simp at hu; subst hu; rfl
      case c3 => have := hle.out; unfold maxLen; omega
      case c4 => have := hle.out; omega
      case c5 => simp; omega
      intro v' w4 hown' hgrow _
      have hB' : Below w.heap.size w w4 := (HB3.out.alloc HB3.out.size _).grown hgrow (by simp; omega) (fun j hj => (HO.out.lt j hj).1)
      have HO' := Lib.hid hown'
      have HB' := Lib.hid hB'
      clear hgrow hown' hB'
      go_wp2
      go_roundw
      case rel => exact ⟨k + 1, by omega, by go_num, by rw [HS.out]; simpa using HO'.out, HB'.out⟩
      case measure => simp [RowKit.intOf]; omega
    · obtain rfl : k = N := by omega
      have hown := HO.out
      have e : strK l k = l.map fun n => sv (Lib.itoa n) := by unfold strK; rw [HN.out, List.take_length]
      rw [hle.out, e] at hown
      have HR := Lib.hid hown
      clear hown e hB
      go_wp2
      go_ret
      exact ⟨⟨_, rfl, HR.out⟩, HB.out⟩
end Go.Proofs.YtdeapbihbhoefaaDoor

/- A value of integers alone (structs and arrays of integers, nested): its cells are its integers, one behind another. And the row's last step under 'Below'. Of no program. -/
namespace Go.Flat
open Go.ChangeShapes Go.WideShapes Go.RowKit

def sideB : List (Nat × Nat) → Nat → Nat → Bool
  | [], off, tot => off == tot
  | (o, c) :: l, off, tot => o == off && sideB l (off + c) tot
/-- the type is made of integers alone, lying side by side. -/
def intsB (P : Program) : Nat → TypeId → Bool
  | 0, _ => false
  | n + 1, t => match P.underlying t with
    | some (.int .i64) => true
    | some (.struct fs) => sideB (fs.toList.map fun f => (f.offset, P.cellsOf f.type)) 0 (P.cellsOf t) && fs.toList.all fun f => intsB P n f.type
    | some (.array k e) => sideB ((List.range k).map fun i => (i * P.cellsOf e, P.cellsOf e)) 0 (P.cellsOf t) && intsB P n e
    | _ => false
/-- the integers of a datum. -/
def flat {H : Type} : Nat → DataW H → List Int
  | 0, _ => []
  | n + 1, .agg ds => ds.flatMap (flat n)
  | _ + 1, .lit (.int _ z) => [z]
  | _ + 1, _ => []

theorem side_cells {cs : List Value} : ∀ (l : List (Nat × Nat)) (zs : List (List Int)) (off : Nat), sideB l off cs.length = true → zs.length = l.length →
    (∀ (i o c : Nat), l[i]? = some (o, c) → ∃ z, zs[i]? = some z ∧ (cs.drop o).take c = z.map (Value.int .i64)) → cs.drop off = zs.flatten.map (Value.int .i64)
  | [], zs, off, hs, hl, _ => by
    obtain rfl : zs = [] := by simpa using hl
    have : off = cs.length := by simpa [sideB] using hs
    subst this
    simp
  | (o, c) :: l, zs, off, hs, hl, hf => by
    obtain ⟨z, zs', rfl⟩ : ∃ z zs', zs = z :: zs' := by
      cases zs with
      | nil => simp at hl
      | cons z zs' => exact ⟨z, zs', rfl⟩
    simp only [sideB, Bool.and_eq_true, beq_iff_eq] at hs
    obtain ⟨rfl, hs⟩ := hs
    obtain ⟨z', hz', h0⟩ := hf 0 o c rfl
    obtain rfl : z = z' := by simpa using hz'
    have ih := side_cells l zs' (o + c) hs (by simpa using hl) (fun i o' c' h => by simpa using hf (i + 1) o' c' (by simpa using h))
    calc cs.drop o = (cs.drop o).take c ++ (cs.drop o).drop c := (List.take_append_drop _ _).symm
      _ = _ := by rw [h0, List.drop_drop, ih]; simp

theorem cells_of_ints {H : Type} {enc : TypeId × Value → H} {P : Program} {w : World} {base : Nat} {sp : Nat → Bool} {held : Bool} :
    ∀ (m : Nat) {fuel : Nat} {t : TypeId} {cs : List Value} {x : DataW H × List MemPlace}, intsB P m t = true → DataW.trod enc P w base sp held fuel t cs = some x → cs = (flat m x.1).map (Value.int .i64) ∧ x.2 = []
  | 0, _, _, _, _, h, _ => by simp [intsB] at h
  | m + 1, fuel, t, cs, x, h, hx => by
    unfold intsB at h
    split at h
    · rename_i ht
      obtain ⟨z, rfl, rfl, _⟩ := DataW.trod_int ht hx
      exact ⟨rfl, rfl⟩
    · rename_i fs ht
      obtain ⟨xs, n, _, rfl, hl, hxl, hf⟩ := DataW.trod_struct ht hx
      simp only [Bool.and_eq_true, List.all_eq_true] at h
      obtain ⟨hs, hi⟩ := h
      have key : ∀ (i : Nat) (f : Field) (y : DataW H × List MemPlace), fs.toList[i]? = some f → xs[i]? = some y → (cs.drop f.offset).take (P.cellsOf f.type) = (flat m y.1).map (Value.int .i64) ∧ y.2 = [] := fun i f y hfi hy =>
        cells_of_ints m (hi f (List.mem_of_getElem? hfi)) ((hf i f (by simpa using hfi)).trans hy)
      have hlen : xs.length = fs.toList.length := by simpa using hxl
      refine ⟨?_, ?_⟩
      · have := side_cells (cs := cs) (fs.toList.map fun f => (f.offset, P.cellsOf f.type)) (xs.map fun y => flat m y.1) 0 (by rw [hl]; exact hs) (by simpa using hxl) (fun i o c hi' => by
          simp only [List.getElem?_map, Option.map_eq_some_iff] at hi'
          obtain ⟨f, hf1, hf2⟩ := hi'
          have hlt : i < xs.length := hlen ▸ (List.getElem?_eq_some_iff.1 hf1).1
          have hy : xs[i]? = some xs[i] := List.getElem?_eq_getElem hlt
          simp only [Prod.mk.injEq] at hf2
          obtain ⟨rfl, rfl⟩ := hf2
          exact ⟨_, by simp [hy], (key i f _ hf1 hy).1⟩)
        rw [List.drop_zero] at this
        refine this.trans ?_
        simp [flat, List.flatMap, List.map_map, Function.comp_def]
      · simp only [List.flatMap_eq_nil_iff]
        intro y hy
        obtain ⟨i, hi'⟩ := List.getElem?_of_mem hy
        have hlt : i < fs.toList.length := hlen ▸ (List.getElem?_eq_some_iff.1 hi').1
        exact (key i _ y (List.getElem?_eq_getElem hlt) hi').2
    · rename_i k e ht
      simp only [Bool.and_eq_true] at h
      obtain ⟨hs, hi⟩ := h
      cases fuel with
      | zero => simp [DataW.trod] at hx
      | succ fuel =>
        simp only [DataW.trod, ht] at hx
        split at hx
        · rename_i hl
          obtain ⟨xs, hm, rfl⟩ := Option.map_eq_some_iff.1 hx
          have hxl : xs.length = k := by simpa using Lib.mapM_length hm
          have key : ∀ (i : Nat) (y : DataW H × List MemPlace), xs[i]? = some y → (cs.drop (i * P.cellsOf e)).take (P.cellsOf e) = (flat m y.1).map (Value.int .i64) ∧ y.2 = [] := fun i y hy => by
            have hlt : i < k := hxl ▸ (List.getElem?_eq_some_iff.1 hy).1
            obtain ⟨b, hb, hf⟩ := Lib.mapM_at hm i i (by simp [hlt])
            obtain rfl := Option.some.inj (hy.symm.trans hb)
            exact cells_of_ints m hi hf
          refine ⟨?_, ?_⟩
          · have := side_cells (cs := cs) ((List.range k).map fun i => (i * P.cellsOf e, P.cellsOf e)) (xs.map fun y => flat m y.1) 0 (by rw [hl]; exact hs) (by simpa using hxl) (fun i o c hi' => by
              simp only [List.getElem?_map, Option.map_eq_some_iff] at hi'
              obtain ⟨j, hj1, hj2⟩ := hi'
              have hlt : i < k := by simpa using (List.getElem?_eq_some_iff.1 hj1).1
              obtain rfl : i = j := by simpa [hlt] using hj1
              have hy : xs[i]? = some (xs[i]'(by omega)) := List.getElem?_eq_getElem (by omega)
              simp only [Prod.mk.injEq] at hj2
              obtain ⟨rfl, rfl⟩ := hj2
              exact ⟨_, by simp [hy], (key i _ hy).1⟩)
            rw [List.drop_zero] at this
            refine this.trans ?_
            simp [flat, List.flatMap, List.map_map, Function.comp_def]
          · simp only [List.flatMap_eq_nil_iff]
            intro y hy
            obtain ⟨i, hi'⟩ := List.getElem?_of_mem hy
            exact (key i y hi').2
        · cases hx
    · cases h

section
variable {H : Type} {enc : TypeId × Value → H} {P : Program}
theorem post_of_below {f : Func} {s : ChangeSpec} {apart fresh handsOn again : Bool} {W W' : World} {args : Array Value} {v : Value} {ds gs : List (DataW H)} {before pa pv : List MemPlace}
    (hW : DataW.Whole enc P f.params.toList s.vars apart W args.toList ds gs before)
    (hres : ∀ (b : Nat) (sp : Nat → Bool) (hd : Bool), DataW.TrodAll enc P W' b sp hd f.resultTypes.toList (v.resultList f.resultTypes.size) (s.fn H (ds ++ gs)).results [])
    (hargs : ∀ sp : Nat → Bool, (∀ p ∈ before, sp p.block = true) → DataW.TrodAll enc P W' 0 sp true f.params.toList args.toList (s.fn H (ds ++ gs)).args pa)
    (hvars : ∀ sp : Nat → Bool, (∀ p ∈ before, sp p.block = true) → DataW.TrodVars enc P W' sp s.vars (s.fn H (ds ++ gs)).vars pv)
    (hps : before = pa ++ pv) (hb : Below W.heap.size W W')
    (hok : ∀ (j : Nat) (t : TypeId) (r : Value), f.resultTypes[j]? = some t → (v.resultList f.resultTypes.size)[j]? = some r → Value.okWide P W' .any 0 t r) :
    s.post enc P f apart fresh handsOn again W args v W' := by
  have hlt : ∀ p ∈ before, p.block < W.heap.size := fun p hp => hW.lt p hp
  have hold : ∀ p ∈ before, (fun b => decide (b < W.heap.size)) p.block = true := fun p hp => by simpa using hlt p hp
  refine ⟨ds, gs, before, [], pa, pv, hW, hres _ _ _, hargs _ hold, hvars _ hold, World.keptBut_mono (fun p hp => ⟨hp, ?_⟩) (hb.frame (· ∈ before)), fun _ => ?_⟩
  · rw [hps, List.mem_append] at hp
    exact Or.inr hp
  · obtain ⟨_, _, _, _, _, hz, hn⟩ := hW
    refine ⟨hok, _, _, ([] ++ pa) ++ pv, ⟨[] ++ pa, pv, trodAll_append (hargs _ (fun _ _ => rfl)) (hres _ _ _), hvars _ (fun _ _ => rfl), rfl, ?_, ?_⟩, ?_⟩
    · intro b off hp
      have hin : MemPlace.cell b off ∈ before := by rw [hps]; simpa using hp
      rw [hb.frozen (hlt _ hin)]
      exact hz b off hin
    · intro ha
      have := hn ha
      rw [hps] at this
      simpa using this
    · intro p hp _
      rw [hps]
      simpa using hp
end

/-- every argument reads behind the call as before it, if below the heap's old size nothing has turned. -/
theorem trodAll_below {H : Type} {enc : TypeId × Value → H} {P : Program} (hl : laidOutB P = true) {W W' : World} (hb : Below W.heap.size W W') {sp : Nat → Bool} :
    ∀ {ts : List TypeId} {vs : List Value} {ds : List (DataW H)} {ps : List MemPlace}, (∀ t ∈ ts, P.readableRec t = true ∧ t < P.types.size) → DataW.TrodAll enc P W 0 (fun _ => true) true ts vs ds ps → (∀ p ∈ ps, p.block < W.heap.size) → (∀ p ∈ ps, sp p.block = true) →
    DataW.TrodAll enc P W' 0 sp true ts vs ds ps
  | [], [], [], _, _, h, _, _ => h
  | t :: ts, v :: vs, d :: ds, _, ht, ⟨p, q, h, hr, rfl⟩, hlt, hs => by
    have h1 := ht t (by simp)
    exact ⟨p, q, WideElems.Trod_stays hl h1.1 h1.2 h (fun x hx => hb.same (hlt x (by simp [hx]))) (fun x hx => hs x (by simp [hx])), trodAll_below hl hb (fun t' h' => ht t' (by simp [h'])) hr (fun x hx => hlt x (by simp [hx])) (fun x hx => hs x (by simp [hx])), rfl⟩
end Go.Flat

/- The rows of chapter 8. What the rows' list gives: the table of the conditions, the powers of ten. A world for the witnesses. Arguments opened: guards, sections, signals. -/
namespace Go.Proofs.YtdeapbihbhoefaaDoor
open Go.ChangeShapes Go.WideShapes Go.ChangeAt Go.RowKit Go.Flat
open Calm (bcell)

/-- the rows' list. -/
noncomputable def laidList : List (String × DataW Unit) := [("math/bits.deBruijn32tab", Rows.laid_math_bits_deBruijn32tab), ("math/bits.deBruijn64tab", Rows.laid_math_bits_deBruijn64tab), ("internal/strconv.uint64pow10", Rows.laid_internal_strconv_uint64pow10), ("woofer/protect.conditions", Rows.laid_woofer_protect_conditions)]
theorem own : ownKnob Tryd.prog.godebug = none := by kernel_rfl
theorem laidOut : laidOutB Tryd.prog = true := by kernel_rfl
theorem gCond : Tryd.prog.globalNamed "woofer/protect.conditions" = some 0 := by kernel_rfl
theorem tCond : (Tryd.prog.globals[0]?).map (·.type) = some 150 := by kernel_rfl
theorem cellsCond : Tryd.prog.cellsOf 149 = 1 := by kernel_rfl

set_option maxRecDepth 100000 in
theorem cond_of_trod {w : World} {fuel : Nat} {cs : List Value} {b : UInt8} {r : List UInt8} {q : List MemPlace} {f0 : FuncId} (hone : ((List.range Tryd.prog.funcs.size).filter fun f => (Tryd.prog.funcs[f]?).any (·.name.toUTF8.data.toList == b :: r)) = [f0]) (hl : cs.length = 1)
    (h : DataW.trod (funcToken Tryd.prog) Tryd.prog w 0 (fun _ => true) true fuel 149 cs = some (.agg [.held (b :: r)], q)) : cs = [.func (.func f0) #[] #[]] := by
  obtain ⟨y0, n, hy, _, h0⟩ := trod_struct1 Tryd.underlying149 h
  match cs, hl with
  | [v], _ =>
  have h0' : DataW.trod (funcToken Tryd.prog) Tryd.prog w 0 (fun _ => true) true n 147 [v] = some y0 := h0
  obtain ⟨y, q'⟩ := y0
  obtain ⟨rfl, rfl⟩ : DataW.held (b :: r) = y ∧ q = q' := by simpa using hy
  rw [func_of_trod Tryd.underlying147 hone h0']

set_option maxRecDepth 100000 in
theorem lim_of_laid {W : World} (h : laidMetH Tryd.prog laidList W) : Lim W := by
  obtain ⟨g, t, cs, fuel, p, hg, ht, hv, hd⟩ := h.funcs (List.mem_cons_of_mem _ (List.mem_cons_of_mem _ (List.mem_cons_of_mem _ (List.mem_singleton.2 rfl))))
  obtain rfl := Option.some.inj (gCond.symm.trans hg)
  obtain rfl := Option.some.inj (tCond.symm.trans ht)
  obtain ⟨xs, n, _, hx, hl, hxl, hf⟩ := DataW.trod_array Tryd.underlying150 hd
  rw [cellsCond] at hf
  have hl3 : cs.toList.length = 3 := hl.trans (by kernel_rfl)
  obtain ⟨l⟩ := cs
  match l, hl3 with
  | [u0, u1, u2], _ =>
  match xs, hxl with
  | [x0, x1, x2], _ =>
  simp only [Prod.mk.injEq] at hx
  obtain ⟨hx, _⟩ := hx
  have hx' : [x0.1, x1.1, x2.1] = _ := (DataW.agg.inj hx).symm
  obtain ⟨y0, q0⟩ := x0
  obtain ⟨y1, q1⟩ := x1
  obtain ⟨y2, q2⟩ := x2
  simp only [List.cons.injEq, and_true] at hx'
  obtain ⟨rfl, rfl, rfl⟩ := hx'
  have k0 := cond_of_trod (f0 := 145) (by kernel_rfl) rfl (hf 0 (by omega) : _ = some _)
  have k1 := cond_of_trod (f0 := 146) (by kernel_rfl) rfl (hf 1 (by omega) : _ = some _)
  have k2 := cond_of_trod (f0 := 148) (by kernel_rfl) rfl (hf 2 (by omega) : _ = some _)
  have e0 : u0 = .func (.func 145) #[] #[] := by simpa using k0
  have e1 : u1 = .func (.func 146) #[] #[] := by simpa using k1
  have e2 : u2 = .func (.func 148) #[] #[] := by simpa using k2
  subst e0 e1 e2
  have hc : ∀ (i : Nat) (v : Value), (⟨[.func (.func 145) #[] #[], .func (.func 146) #[] #[], .func (.func 148) #[] #[]]⟩ : Array Value)[i]? = some v → W.cell? ⟨0, i, none⟩ = some v := fun i v hi => (World.var?_cell gCond hv i).trans hi
  have h0 := hc 0 _ rfl
  refine ⟨?_, h0, hc 1 _ rfl, hc 2 _ rfl⟩
  rcases Nat.lt_or_ge 0 W.heap.size with h' | h'
  · exact h'
  · unfold World.cell? at h0
    rw [show W.heap[(⟨0, 0, none⟩ : Addr).block]? = none from Array.getElem?_eq_none h'] at h0
    cases h0

theorem tyPow : (Tryd.prog.globals[1]?).map (·.type) = some 164 := by kernel_rfl
set_option maxRecDepth 100000 in
theorem tab_of_laid {W : World} (h : laidMetH Tryd.prog laidList W) : PTab W := by
  refine ⟨lim_of_laid h, ?_⟩
  obtain ⟨⟨ps, hl, _, _⟩, _⟩ : laidMet Tryd.prog [("math/bits.deBruijn32tab", Rows.laid_math_bits_deBruijn32tab), ("math/bits.deBruijn64tab", Rows.laid_math_bits_deBruijn64tab), ("internal/strconv.uint64pow10", Rows.laid_internal_strconv_uint64pow10)] W ∧ _ := h
  obtain ⟨_, _, _, _, _, _, _, _, _, _, hl, _⟩ := hl
  obtain ⟨_, _, _, _, _, _, _, _, _, _, hl, _⟩ := hl
  obtain ⟨g2, t2, cs2, fuel2, p2, _, hg2, ht2, hv2, hd2, hl, _⟩ := hl
  obtain rfl := Option.some.inj (gPow.symm.trans hg2)
  obtain rfl := Option.some.inj (tyPow.symm.trans ht2)
  have e : (Rows.laid_internal_strconv_uint64pow10 : DataW Unit) = Lib.tabData .u64 Lib.pow10Tab := by kernel_rfl
  rw [e] at hd2
  unfold Lib.TabIs
  rw [hv2, ← Lib.cells_of_tab Tryd.underlying164 Tryd.underlying155 (by kernel_rfl) (by kernel_rfl) hd2]

theorem laid_met (os : Os) (args : Array Value) : laidMetH Tryd.prog laidList ((World.doorLaid Tryd.prog 35 os).forCall (fun _ _ => 0) ⟨#[], args, []⟩).memory :=
  laidMetH_of_parts3 (fuel := 8) (laidMet_of_run' 8 (by kernel_rfl) (by kernel_rfl)) (by kernel_rfl) (by kernel_rfl)
theorem door_vars (os : Os) (args : Array Value) : ((World.doorLaid Tryd.prog 35 os).forCall (fun _ _ => 0) ⟨#[], args, []⟩).variablesB Tryd.prog = true := by kernel_rfl
theorem door_rest (os : Os) (args : Array Value) : (((World.doorLaid Tryd.prog 35 os).forCall (fun _ _ => 0) ⟨#[], args, []⟩).heap.toList.drop Tryd.prog.globals.size).take ((begin Tryd.prog (fun _ _ => 0) default).world.heap.size - Tryd.prog.globals.size) =
      (begin Tryd.prog (fun _ _ => 0) default).world.heap.toList.drop Tryd.prog.globals.size := by kernel_rfl

section
variable {H : Type} {enc : TypeId × Value → H} {P : Program} {w : World} {base : Nat} {sp : Nat → Bool} {held : Bool}

theorem cell_lt {w : World} {b o : Nat} {v : Value} (h : w.cell? ⟨b, o, none⟩ = some v) : b < w.heap.size := by
  rcases Nat.lt_or_ge b w.heap.size with h' | h'
  · exact h'
  · unfold World.cell? at h
    rw [show w.heap[(⟨b, o, none⟩ : Addr).block]? = none from Array.getElem?_eq_none h'] at h
    cases h

/-- a slice whose elements are made of integers alone. -/
theorem open_slab (m : Nat) {t e : TypeId} {k : Nat} {fuel : Nat} {cs : List Value} {x : DataW H × List MemPlace} (ht : P.underlying t = some (.slice e)) (he : intsB P m e = true) (hk : P.cellsOf e = k) (hk0 : 0 < k)
    (h : DataW.trod enc P w base sp held fuel t cs = some x) :
    ∃ (A : Option Addr) (len cap : Nat) (zs : Nat → List Int), cs = [.slice A len cap] ∧ len ≤ cap ∧ cap ≤ maxLen ∧ (∀ i, i < len → (zs i).length = k) ∧
      (0 < len → ∃ b o, A = some ⟨b, o, none⟩ ∧ b < w.heap.size ∧ ∀ i j, i < len → j < k → w.cell? ⟨b, o + i * k + j, none⟩ = some (.int .i64 ((zs i).getD j 0))) := by
  subst hk
  rcases Deep.open_slice ht h with ⟨rfl, _⟩ | ⟨a, len, cap, m', n, D, Pl, rfl, _, h1, h2, h3, _, h4⟩
  · exact ⟨none, 0, 0, fun _ => [], rfl, Nat.le_refl _, Nat.zero_le _, fun i hi => by omega, fun h0 => by omega⟩
  · have hlm : len ≤ m' := by rw [h3]; split <;> omega
    obtain ⟨zs, hzs⟩ := Deep.choose_lt (n := len) (α := List Int) (p := fun i z => z.length = P.cellsOf e ∧ ∀ j, j < P.cellsOf e → w.cell? ((a.add (i * P.cellsOf e)).add j) = some (.int .i64 (z.getD j 0))) (fun i hi => by
      obtain ⟨cs', hc, hx⟩ := h4 i (by omega)
      obtain ⟨_, hl, hcell⟩ := World.cells?_some hc
      obtain ⟨hcs, _⟩ := cells_of_ints m he hx
      refine ⟨flat m (D i), ?_, fun j hj => ?_⟩
      · have := congrArg List.length hcs
        simp at this
        omega
      · rw [hcell j hj, hcs]
        have hj' : j < (flat m (D i)).length := by
          have := congrArg List.length hcs
          simp at this
          omega
        simp [List.getD, hj'])
    refine ⟨some a, len, cap, zs, rfl, h1, h2, fun i hi => (hzs i hi).1, fun h0 => ?_⟩
    obtain ⟨b, o, s⟩ := a
    have hs : s = none := by
      have := World.cell?_spot ((hzs 0 h0).2 0 hk0)
      simpa [Addr.add] using this
    subst hs
    refine ⟨b, o, rfl, ?_, fun i j hi hj => ?_⟩
    · have := (hzs 0 h0).2 0 hk0
      rw [add_plain, add_plain] at this
      exact cell_lt this
    · have := (hzs i hi).2 j hj
      rwa [add_plain, add_plain] at this

/-- a slice of integers. -/
theorem open_cells (m : Nat) {t e : TypeId} {fuel : Nat} {cs : List Value} {x : DataW H × List MemPlace} (ht : P.underlying t = some (.slice e)) (he : intsB P m e = true) (hk : P.cellsOf e = 1)
    (h : DataW.trod enc P w base sp held fuel t cs = some x) : ∃ (A : Option Addr) (cap : Nat) (zs : List Int), cs = [.slice A zs.length cap] ∧ zs.length ≤ cap ∧ cap ≤ maxLen ∧ Cells w A zs := by
  obtain ⟨A, len, cap, zs, rfl, h1, h2, _, h3⟩ := open_slab m ht he hk (by omega) h
  refine ⟨A, cap, (List.range len).map fun i => (zs i).getD 0 0, by simp, by simpa using h1, h2, fun h0 => ?_⟩
  obtain ⟨b, o, hA, hb, hc⟩ := h3 (by simpa using h0)
  refine ⟨b, o, hA, hb, fun k hk => ?_⟩
  have hk' : k < len := by simpa using hk
  have := hc k 0 hk' (by omega)
  simp only [Nat.mul_one, Nat.add_zero] at this
  rw [this]
  simp [List.getD, hk']
end

set_option maxRecDepth 100000 in
/-- an argument that is a slice of integers, opened. -/
theorem open_islice {H : Type} {enc : TypeId × Value → H} {w : World} {base : Nat} {r : Reach} {b0 : Nat} {sp : Nat → Bool} {held : Bool} {v : Value} {d : DataW H} {p : List MemPlace}
    (hv : Value.okWide Tryd.prog w r b0 22 v) (hd : DataW.Trod enc Tryd.prog w base sp held 22 v d p) :
    ∃ (A : Option Addr) (c : Nat) (zs : List Int), v = .slice A zs.length c ∧ zs.length ≤ c ∧ c ≤ maxLen ∧ Cells w A zs := by
  obtain ⟨a, len, cap, rfl⟩ := okWide_slice Tryd.underlying22 hv
  obtain ⟨fuel, hf⟩ := hd
  have hf' : DataW.trod enc Tryd.prog w base sp held fuel 22 [.slice a len cap] = some (d, p) := hf
  obtain ⟨A, c, zs, e, h1, h2, k⟩ := open_cells 3 Tryd.underlying22 (by kernel_rfl) (by kernel_rfl) hf'
  exact ⟨A, c, zs, by simpa using e, h1, h2, k⟩

set_option maxRecDepth 100000 in
/-- a guard, opened: three integers and two slices of integers. -/
theorem open_guard {H : Type} {enc : TypeId × Value → H} {w : World} {base : Nat} {r : Reach} {b0 : Nat} {sp : Nat → Bool} {held : Bool} {v : Value} {d : DataW H} {p : List MemPlace}
    (hv : Value.okWide Tryd.prog w r b0 24 v) (hd : DataW.Trod enc Tryd.prog w base sp held 24 v d p) :
    ∃ (lk ht rc : Int) (A1 A2 : Option Addr) (c1 c2 : Nat) (ts gs : List Int), v = .agg #[(.int .i64 lk), (.int .i64 ht), .slice A1 ts.length c1, (.int .i64 rc), .slice A2 gs.length c2] ∧ Cells w A1 ts ∧ Cells w A2 gs := by
  obtain ⟨cs, rfl, hsz⟩ := okWide_struct Tryd.underlying24 hv
  obtain ⟨fuel, hf⟩ := hd
  obtain ⟨xs, n, _, _, hl, hxl, hf⟩ := DataW.trod_struct Tryd.underlying24 hf
  rw [show Tryd.prog.cellsOf 24 = 5 by kernel_rfl] at hsz
  obtain ⟨l⟩ := cs
  match l, hsz with
  | [u0, u1, u2, u3, u4], _ =>
  match xs, hxl with
  | [x0, x1, x2, x3, x4], _ =>
  have hi : Flat.intsB Tryd.prog 3 3 = true := by kernel_rfl
  have h0 : DataW.trod enc Tryd.prog w base sp held n 3 [u0] = some x0 := hf 0 _ rfl
  have h1 : DataW.trod enc Tryd.prog w base sp held n 3 [u1] = some x1 := hf 1 _ rfl
  have h2 : DataW.trod enc Tryd.prog w base sp held n 22 [u2] = some x2 := hf 2 _ rfl
  have h3 : DataW.trod enc Tryd.prog w base sp held n 3 [u3] = some x3 := hf 3 _ rfl
  have h4 : DataW.trod enc Tryd.prog w base sp held n 22 [u4] = some x4 := hf 4 _ rfl
  obtain ⟨lk, e0, _, _⟩ := DataW.trod_int Tryd.underlying3 h0
  obtain ⟨ht, e1, _, _⟩ := DataW.trod_int Tryd.underlying3 h1
  obtain ⟨rc, e3, _, _⟩ := DataW.trod_int Tryd.underlying3 h3
  obtain ⟨A1, c1, ts, e2, _, _, k1⟩ := open_cells 3 Tryd.underlying22 hi (by kernel_rfl) h2
  obtain ⟨A2, c2, gs, e4, _, _, k2⟩ := open_cells 3 Tryd.underlying22 hi (by kernel_rfl) h4
  obtain rfl : u0 = _ := by simpa using e0
  obtain rfl : u1 = _ := by simpa using e1
  obtain rfl : u2 = _ := by simpa using e2
  obtain rfl : u3 = _ := by simpa using e3
  obtain rfl : u4 = _ := by simpa using e4
  exact ⟨lk, ht, rc, A1, A2, c1, c2, ts, gs, rfl, k1, k2⟩

end Go.Proofs.YtdeapbihbhoefaaDoor
