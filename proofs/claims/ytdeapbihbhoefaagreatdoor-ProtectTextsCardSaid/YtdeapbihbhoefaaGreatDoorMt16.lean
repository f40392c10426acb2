/- Part 16 of the texts of the claim: Shelf, RT2, RT3, Y12. -/
import Derived.Shelf.Strings.Builder1
import Derived.Shelf.Strings.Builder2
import Derived.Shelf.Strings.OnBuilder
import Derived.Shelf.Small.Wraps
import Derived.Shelf.Strconv.Itoa0
import Derived.Shelf.Strconv.Itoa1
import Derived.Shelf.LaysM
import Derived.Shelf.Strconv.Itoa2
import Derived.Shelf.Strconv.Itoa3
import Derived.Shelf.Strings.Search1
import Derived.Shelf.Strings.Search2
import Derived.Shelf.Strings.Search3
import Derived.Shelf.Strings.Count
import Derived.Shelf.Strings.Shaped
import Derived.Shelf.Strings.Prefix
import Derived.Shelf.Strings.Split
import Derived.Shelf.Unicode.DecodeSlow
import Derived.Test.YtdeapbihbhoefaaGreatDoorProg
import Derived.Test.YtdeapbihbhoefaaGreatDoorMt1
import Derived.Test.YtdeapbihbhoefaaGreatDoorMt2
import Derived.Laws.RangeAny
import Derived.Test.YtdeapbihbhoefaaGreatDoorMt9
import Derived.Test.YtdeapbihbhoefaaGreatDoorMt4
import Derived.BigRegion
import Derived.Test.YtdeapbihbhoefaaGreatDoorMt15
import Derived.Lib.LaidTab
import Derived.Lib.ItoaLen
import Derived.Laws.OwnMore

/- Contracts of the library at this program, in plain words (written by the kit's own tool, cut to what is used). -/
namespace Go.Proofs
open Go.Shelf
def Tryz.lays156_ren : Go.Shelf.Ren := ⟨fun | 156 => 38 | 165 => 73 | 166 => 74 | 169 => 75 | 240 => 86 | 241 => 87 | 276 => 97 | 277 => 98 | n => n, fun | 31 => 74 | 9 => 9 | 3 => 3 | 4 => 4 | 0 => 0 | 20 => 20 | 72 => 119 | 76 => 123 | 70 => 116 | 37 => 117 | 75 => 122 | 127 => 135 | 164 => 151 | 5 => 5 | 80 => 125 | n => n, fun | n => n⟩
theorem Tryz.lays156 : Go.Proofs.Lays.n156 Tryz.prog Tryz.lays156_ren := {
  mixed := by kernel_rfl
  f156 := Tryz.func38.trans (congrArg some (by kernel_rfl))
  f165 := Tryz.func73.trans (congrArg some (by kernel_rfl))
  f166 := Tryz.func74.trans (congrArg some (by kernel_rfl))
  f169 := Tryz.func75.trans (congrArg some (by kernel_rfl))
  f240 := Tryz.func86.trans (congrArg some (by kernel_rfl))
  f241 := Tryz.func87.trans (congrArg some (by kernel_rfl))
  f276 := Tryz.func97.trans (congrArg some (by kernel_rfl))
  f277 := Tryz.func98.trans (congrArg some (by kernel_rfl))
  t0 := Tryz.underlying0
  a0 := Tryz.isAgg0
  z0 := Tryz.sizeOf0
  v0 := Tryz.zeroValue0
  t3 := Tryz.underlying3
  a3 := Tryz.isAgg3
  z3 := Tryz.sizeOf3
  v3 := Tryz.zeroValue3
  t4 := Tryz.underlying4
  a4 := Tryz.isAgg4
  z4 := Tryz.sizeOf4
  v4 := Tryz.zeroValue4
  t9 := Tryz.underlying9
  a9 := Tryz.isAgg9
  z9 := Tryz.sizeOf9
  v9 := Tryz.zeroValue9
  t20 := Tryz.underlying20
  a20 := Tryz.isAgg20
  z20 := Tryz.sizeOf20
  v20 := Tryz.zeroValue20
  t31 := Tryz.underlying74
  a31 := Tryz.isAgg74
  z31 := Tryz.sizeOf74
  v31 := Tryz.zeroValue74
  t37 := Tryz.underlying117
  a37 := Tryz.isAgg117
  z37 := Tryz.sizeOf117
  v37 := Tryz.zeroValue117
  t70 := Tryz.underlying116
  a70 := Tryz.isAgg116
  z70 := Tryz.sizeOf116
  v70 := Tryz.zeroValue116
  t72 := Tryz.underlying119
  a72 := Tryz.isAgg119
  z72 := Tryz.sizeOf119
  v72 := Tryz.zeroValue119
  t75 := Tryz.underlying122
  a75 := Tryz.isAgg122
  z75 := Tryz.sizeOf122
  v75 := Tryz.zeroValue122
  t76 := Tryz.underlying123
  a76 := Tryz.isAgg123
  z76 := Tryz.sizeOf123
  v76 := Tryz.zeroValue123
  t127 := Tryz.underlying135
  a127 := Tryz.isAgg135
  z127 := Tryz.sizeOf135
  v127 := Tryz.zeroValue135
  t164 := Tryz.underlying151
  a164 := Tryz.isAgg151
  z164 := Tryz.sizeOf151
  v164 := Tryz.zeroValue151 }
theorem Tryz.Builder_Extra_156 : Builder.Extra Tryz.prog Tryz.lays156_ren := {
  sizeBuilder := by kernel_rfl
  liesBuilder := by kernel_rfl
  t5 := Tryz.underlying5
  a5 := Tryz.isAgg5
  z5 := Tryz.sizeOf5
  v5 := Tryz.zeroValue5
  infoByte := by kernel_rfl
  cellsByte := by kernel_rfl
  sizeByte := by kernel_rfl
  neB5 := by decide }
open Go.RowKit in
theorem Tryz.strings_Join (bk o c : Nat) (xs : List ByteArray) (sep : ByteArray) (w : World) (hcells : ∀ (j : Nat) x, xs[j]? = some x → w.cell? ⟨bk, o + j, none⟩ = some (.string x)) (hbk : bk < w.heap.size) (hN : xs.length ≤ 140737488355328) (hcap : xs.length ≤ c) (hlen : (Lib.join (xs.map (·.data.toList)) sep.data.toList).length ≤ 140737488355328) :
    Calls Tryz.prog 38 #[.slice (some ⟨bk, o, none⟩) xs.length c, .string sep] w fun e w' => e = .returned (.string ⟨(Lib.join (xs.map (·.data.toList)) sep.data.toList).toArray⟩) ∧ Below w.heap.size w w' := Any.strings_Join Tryz.lays156 Tryz.Builder_Extra_156 bk o c xs sep w hcells hbk hN hcap hlen
def Tryz.lays103_ren : Go.Shelf.Ren := ⟨fun | 103 => 91 | 210 => 103 | 206 => 114 | n => n, fun | 9 => 9 | 4 => 4 | 24 => 138 | 3 => 3 | n => n, fun | n => n⟩
theorem Tryz.lays103 : Go.Proofs.Lays.n103 Tryz.prog Tryz.lays103_ren := {
  mixed := by kernel_rfl
  f103 := Tryz.func91.trans (congrArg some (by kernel_rfl))
  f206 := Tryz.func114.trans (congrArg some (by kernel_rfl))
  f210 := Tryz.func103.trans (congrArg some (by kernel_rfl))
  t3 := Tryz.underlying3
  a3 := Tryz.isAgg3
  z3 := Tryz.sizeOf3
  v3 := Tryz.zeroValue3
  t4 := Tryz.underlying4
  a4 := Tryz.isAgg4
  z4 := Tryz.sizeOf4
  v4 := Tryz.zeroValue4
  t9 := Tryz.underlying9
  a9 := Tryz.isAgg9
  z9 := Tryz.sizeOf9
  v9 := Tryz.zeroValue9
  t24 := Tryz.underlying138
  a24 := Tryz.isAgg138
  z24 := Tryz.sizeOf138
  v24 := Tryz.zeroValue138 }
open Go.RowKit in
theorem Tryz.strings_CutPrefix (s p : ByteArray) (w : World) :
    Calls Tryz.prog 91 #[.string s, .string p] w fun e w' => e = .returned (.tuple #[.string ⟨(Lib.trimPrefix s.data.toList p.data.toList).toArray⟩, .bool (Lib.hasPrefix s.data.toList p.data.toList)]) ∧ w' = w := Any.strings_CutPrefix Tryz.lays103 s p w
def Tryz.laysM171_ren : Go.Shelf.Ren := ⟨fun | 171 => 36 | 243 => 72 | 246 => 85 | 283 => 93 | 284 => 94 | 285 => 95 | 286 => 96 | 129 => 105 | 317 => 104 | 318 => 106 | 319 => 107 | 320 => 108 | 337 => 115 | 338 => 116 | n => n, fun | 3 => 3 | 9 => 9 | 2 => 2 | 4 => 4 | 171 => 145 | 0 => 0 | 53 => 146 | 37 => 117 | 5 => 5 | 173 => 149 | 212 => 159 | 51 => 160 | 20 => 20 | 213 => 161 | 46 => 163 | 232 => 173 | 233 => 174 | n => n, fun | 17 => 1 | 18 => 5 | 19 => 6 | n => n⟩
theorem Tryz.laysM171 : Go.Proofs.LaysM.n171 Tryz.prog Tryz.laysM171_ren := {
  mixed := by kernel_rfl
  f129 := Tryz.func105.trans (congrArg some (by kernel_rfl))
  f171 := Tryz.func36.trans (congrArg some (by kernel_rfl))
  f243 := Tryz.func72.trans (congrArg some (by kernel_rfl))
  f246 := Tryz.func85.trans (congrArg some (by kernel_rfl))
  f283 := Tryz.func93.trans (congrArg some (by kernel_rfl))
  f284 := Tryz.func94.trans (congrArg some (by kernel_rfl))
  f285 := Tryz.func95.trans (congrArg some (by kernel_rfl))
  f286 := Tryz.func96.trans (congrArg some (by kernel_rfl))
  f317 := Tryz.func104.trans (congrArg some (by kernel_rfl))
  f318 := Tryz.func106.trans (congrArg some (by kernel_rfl))
  f319 := Tryz.func107.trans (congrArg some (by kernel_rfl))
  f320 := Tryz.func108.trans (congrArg some (by kernel_rfl))
  f337 := Tryz.func115.trans (congrArg some (by kernel_rfl))
  f338 := Tryz.func116.trans (congrArg some (by kernel_rfl))
  t0 := Tryz.underlying0
  a0 := Tryz.isAgg0
  z0 := Tryz.sizeOf0
  v0 := Tryz.zeroValue0
  t2 := Tryz.underlying2
  a2 := Tryz.isAgg2
  z2 := Tryz.sizeOf2
  v2 := Tryz.zeroValue2
  t3 := Tryz.underlying3
  a3 := Tryz.isAgg3
  z3 := Tryz.sizeOf3
  v3 := Tryz.zeroValue3
  t4 := Tryz.underlying4
  a4 := Tryz.isAgg4
  z4 := Tryz.sizeOf4
  v4 := Tryz.zeroValue4
  t5 := Tryz.underlying5
  a5 := Tryz.isAgg5
  z5 := Tryz.sizeOf5
  v5 := Tryz.zeroValue5
  t9 := Tryz.underlying9
  a9 := Tryz.isAgg9
  z9 := Tryz.sizeOf9
  v9 := Tryz.zeroValue9
  t20 := Tryz.underlying20
  a20 := Tryz.isAgg20
  z20 := Tryz.sizeOf20
  v20 := Tryz.zeroValue20
  t37 := Tryz.underlying117
  a37 := Tryz.isAgg117
  z37 := Tryz.sizeOf117
  v37 := Tryz.zeroValue117
  t46 := Tryz.underlying163
  a46 := Tryz.isAgg163
  z46 := Tryz.sizeOf163
  v46 := Tryz.zeroValue163
  t51 := Tryz.underlying160
  a51 := Tryz.isAgg160
  z51 := Tryz.sizeOf160
  v51 := Tryz.zeroValue160
  t53 := Tryz.underlying146
  a53 := Tryz.isAgg146
  z53 := Tryz.sizeOf146
  v53 := Tryz.zeroValue146
  t171 := Tryz.underlying145
  a171 := Tryz.isAgg145
  z171 := Tryz.sizeOf145
  v171 := Tryz.zeroValue145
  t173 := Tryz.underlying149
  a173 := Tryz.isAgg149
  z173 := Tryz.sizeOf149
  v173 := Tryz.zeroValue149
  t212 := Tryz.underlying159
  a212 := Tryz.isAgg159
  z212 := Tryz.sizeOf159
  v212 := Tryz.zeroValue159
  t213 := Tryz.underlying161
  a213 := Tryz.isAgg161
  z213 := Tryz.sizeOf161
  t232 := Tryz.underlying173
  a232 := Tryz.isAgg173
  z232 := Tryz.sizeOf173
  v232 := Tryz.zeroValue173
  t233 := Tryz.underlying174
  a233 := Tryz.isAgg174
  z233 := Tryz.sizeOf174
  v233 := Tryz.zeroValue174
  g17 := by kernel_rfl
  g18 := by kernel_rfl
  g19 := by kernel_rfl
  i0 := by kernel_rfl
  i2 := by kernel_rfl
  i3 := by kernel_rfl
  i4 := by kernel_rfl
  i5 := by kernel_rfl
  i9 := by kernel_rfl
  i20 := by kernel_rfl
  i37 := by kernel_rfl
  i46 := by kernel_rfl
  i51 := by kernel_rfl
  i53 := by kernel_rfl
  i171 := by kernel_rfl
  i173 := by kernel_rfl
  i212 := by kernel_rfl
  i232 := by kernel_rfl
  i233 := by kernel_rfl
  m17 := by kernel_rfl
  m18 := by kernel_rfl
  m19 := by kernel_rfl }
open Go.RowKit Go.Sort Go.Lib in
theorem Tryz.strconv_Itoa (n : Int) (h0 : -9223372036854775808 ≤ n) (h1 : n ≤ 9223372036854775807) (w : World) (htab : Lib.TabIs Tryz.prog w "internal/strconv.uint64pow10" .u64 Lib.pow10Tab) :
    Calls Tryz.prog 36 #[.int .i64 n] w fun e w' => e = .returned (.string ⟨(Lib.itoa n).toArray⟩) ∧ ∃ k os, w' = grow (w.drewN k) os := Any.strconv_Itoa Tryz.laysM171 n h0 h1 w htab
def Tryz.lays146_ren : Go.Shelf.Ren := ⟨fun | 146 => 40 | 221 => 76 | 268 => 88 | 138 => 89 | 143 => 90 | 195 => 99 | 197 => 100 | 218 => 101 | 219 => 102 | 260 => 109 | 217 => 110 | 225 => 111 | 224 => 112 | 267 => 113 | 266 => 117 | 314 => 118 | n => n, fun | 9 => 9 | 31 => 74 | 3 => 3 | 4 => 4 | 0 => 0 | 105 => 155 | 21 => 21 | 5 => 5 | 46 => 163 | 119 => 167 | 139 => 170 | 138 => 169 | 146 => 171 | 51 => 160 | n => n, fun | 1 => 2 | 3 => 3 | 4 => 4 | n => n⟩
theorem Tryz.lays146 : Go.Proofs.Lays.n146 Tryz.prog Tryz.lays146_ren := {
  mixed := by kernel_rfl
  f138 := Tryz.func89.trans (congrArg some (by kernel_rfl))
  f143 := Tryz.func90.trans (congrArg some (by kernel_rfl))
  f146 := Tryz.func40.trans (congrArg some (by kernel_rfl))
  f195 := Tryz.func99.trans (congrArg some (by kernel_rfl))
  f197 := Tryz.func100.trans (congrArg some (by kernel_rfl))
  f217 := Tryz.func110.trans (congrArg some (by kernel_rfl))
  f218 := Tryz.func101.trans (congrArg some (by kernel_rfl))
  f219 := Tryz.func102.trans (congrArg some (by kernel_rfl))
  f221 := Tryz.func76.trans (congrArg some (by kernel_rfl))
  f224 := Tryz.func112.trans (congrArg some (by kernel_rfl))
  f225 := Tryz.func111.trans (congrArg some (by kernel_rfl))
  f260 := Tryz.func109.trans (congrArg some (by kernel_rfl))
  f266 := Tryz.func117.trans (congrArg some (by kernel_rfl))
  f267 := Tryz.func113.trans (congrArg some (by kernel_rfl))
  f268 := Tryz.func88.trans (congrArg some (by kernel_rfl))
  f314 := Tryz.func118.trans (congrArg some (by kernel_rfl))
  t0 := Tryz.underlying0
  a0 := Tryz.isAgg0
  z0 := Tryz.sizeOf0
  v0 := Tryz.zeroValue0
  t3 := Tryz.underlying3
  a3 := Tryz.isAgg3
  z3 := Tryz.sizeOf3
  v3 := Tryz.zeroValue3
  t4 := Tryz.underlying4
  a4 := Tryz.isAgg4
  z4 := Tryz.sizeOf4
  v4 := Tryz.zeroValue4
  t5 := Tryz.underlying5
  a5 := Tryz.isAgg5
  z5 := Tryz.sizeOf5
  v5 := Tryz.zeroValue5
  t9 := Tryz.underlying9
  a9 := Tryz.isAgg9
  z9 := Tryz.sizeOf9
  v9 := Tryz.zeroValue9
  t21 := Tryz.underlying21
  a21 := Tryz.isAgg21
  z21 := Tryz.sizeOf21
  v21 := Tryz.zeroValue21
  t31 := Tryz.underlying74
  a31 := Tryz.isAgg74
  z31 := Tryz.sizeOf74
  v31 := Tryz.zeroValue74
  t46 := Tryz.underlying163
  a46 := Tryz.isAgg163
  z46 := Tryz.sizeOf163
  v46 := Tryz.zeroValue163
  t51 := Tryz.underlying160
  a51 := Tryz.isAgg160
  z51 := Tryz.sizeOf160
  v51 := Tryz.zeroValue160
  t105 := Tryz.underlying155
  a105 := Tryz.isAgg155
  z105 := Tryz.sizeOf155
  v105 := Tryz.zeroValue155
  t119 := Tryz.underlying167
  a119 := Tryz.isAgg167
  z119 := Tryz.sizeOf167
  t138 := Tryz.underlying169
  a138 := Tryz.isAgg169
  z138 := Tryz.sizeOf169
  v138 := Tryz.zeroValue169
  t139 := Tryz.underlying170
  a139 := Tryz.isAgg170
  z139 := Tryz.sizeOf170
  v139 := Tryz.zeroValue170
  t146 := Tryz.underlying171
  a146 := Tryz.isAgg171
  z146 := Tryz.sizeOf171
  v146 := Tryz.zeroValue171
  g1 := by kernel_rfl
  g3 := by kernel_rfl
  g4 := by kernel_rfl }
open Go.RowKit Go.Lib in
theorem Tryz.strings_Split (s sep : ByteArray) (m : Int) (w : World) (hs : s.size < 4294967281) (hm : w.cell? ⟨2, 0, none⟩ = some (.int .i64 m)) (h1 : 1 ≤ sep.size) :
    Calls Tryz.prog 40 #[.string s, .string sep] w fun e w' =>
      e = .returned (.slice (some ⟨w.heap.size, 0, none⟩) (Lib.countB s sep + 1) (Lib.countB s sep + 1)) ∧ w' = w.alloc (.cells ((Lib.splitB sep 0 (Lib.countB s sep) s).map Value.string).toArray 9) := Any.strings_Split Tryz.lays146 (by kernel_rfl) s sep m w hs hm h1
end Go.Proofs

/- The program's integer. -/
namespace Go.Proofs.YtdeapbihbhoefaaGreatDoor
open Go.RowKit
open Go.Lib
open Calm (bcell Blk)
theorem iter_below (w : World) (s : ByteArray) (p : Nat) : Below w.heap.size w (w.iter s p) := (Below.refl _ _).alloc (Nat.le_refl _) _
theorem sgnL_pre (l : List UInt8) : sgnL l = (match numL (trimPrefix l [45]) with | some k => if hasPrefix l [45] then (if 0 < k then some (-(k : Int)) else none) else some (k : Int) | none => none) := by
  have e : hasPrefix l [45] = decide (l.head? = some 45) := by
    unfold hasPrefix
    cases l with
    | nil => rfl
    | cons x r =>
      simp only [List.isPrefixOf, List.head?_cons, Option.some.injEq, Bool.and_true]
      rw [Bool.eq_iff_iff, beq_iff_eq, decide_eq_true_iff]
      exact eq_comm
  unfold sgnL trimPrefix
  rw [e]
  by_cases h : l.head? = some 45
  · rw [if_pos h, decide_eq_true h, if_pos rfl]
    cases l with
    | nil => cases h
    | cons x r => rfl
  · rw [if_neg h, decide_eq_false h]
    simp only [Bool.false_eq_true, if_false]
    cases numL l <;> rfl
set_option maxHeartbeats 8000000 in
set_option maxRecDepth 100000 in
theorem integer_walk (s d : ByteArray) (m : Bool) (R : Option Nat) (V : Int) (S : Bool) (w : World) (hs : d.size ≤ 4096) (hd : d = ⟨(trimPrefix s.data.toList [45]).toArray⟩) (hm : m = hasPrefix s.data.toList [45]) (hR : R = numL d.data.toList)
    (hN : R = none → V = 0 ∧ S = false) (hK : ∀ k, R = some k → (m = true → (k = 0 → V = 0 ∧ S = false) ∧ (0 < k → V = -(k : Int) ∧ S = true)) ∧ (m = false → V = k ∧ S = true)) :
    Calls Tryz.prog 77 #[.string s] w fun r w' => r = .returned (.tuple #[(.int .i64 V), .bool S]) ∧ Below w.heap.size w w' := by
  have HCP : Hid (∀ W : World, Calls Tryz.prog 91 #[.string s, .string ⟨#[45]⟩] W fun e w' => e = .returned (.tuple #[.string d, .bool m]) ∧ W = w') := Lib.hid (fun W => (Tryz.strings_CutPrefix s ⟨#[45]⟩ W).mono fun e w' ⟨h1, h2⟩ => ⟨by rw [h1, hd, hm], h2.symm⟩)
  have HR := Lib.hid hR
  have HN := Lib.hid hN
  have HK := Lib.hid hK
  have HLEN := Lib.hid (size_list d)
  clear hd hm hR hN hK
  go_enter Tryz.func77, Tryz.ntmps77
  go_wp2_with (go_at_call 91; refine (HCP.out _).mono ?_; rintro r w1 ⟨rfl, rfl⟩)
  clear HCP
  go_loopw [6] (fun n w' => ∃ k : Nat, k ≤ d.size ∧ w' = w.iter d k ∧ n = (.int .i64 (((valL (d.data.toList.take k) : Nat) : Int))) ∧ (d.data.toList.take k).all digB = true ∧ (0 < k → d.size ≤ 9)) (fun _ w' => d.size - w'.iterPos w.heap.size)
  case atStart => exact ⟨0, by omega, rfl, rfl, rfl, fun h => absurd h (by omega)⟩
  case round =>
    obtain ⟨k, hk, rfl, rfl, hdg, h9⟩ := hrel
    have hv := valL_lt _ _ rfl hdg
    have hkl : (d.data.toList.take k).length = k := by rw [List.length_take, size_list]; omega
    rw [hkl] at hv
    have hv3 : valL (d.data.toList.take k) ≤ 1000000000 := by
      rcases Nat.eq_zero_or_pos k with h0 | h0
      · subst h0; simp [valL]
      · have hv2 : 10 ^ k ≤ 10 ^ 9 := Nat.pow_le_pow_right (by decide) (by have := h9 h0; omega)
        omega
    have HD := Lib.hid hdg
    have H9 := Lib.hid h9
    clear hdg hv hkl h9
    by_cases hlt : k < d.size
    · by_cases hasc : (d[k]'hlt).toNat < 128
      · have hnx : ∀ ty, (Instr.next (.pointer (some ⟨w.heap.size, 0, none⟩)) true ty).run Tryz.prog (w.iter d k) = _ := fun ty => run_next_ascii w d k ty hlt hasc
        have HT := Lib.hid (take_snoc d k hlt)
        by_cases hdig : 48 ≤ d[k].toNat ∧ d[k].toNat ≤ 57
        · obtain ⟨d1, d2⟩ := hdig
          by_cases hl9 : d.size ≤ 9
          · have HX := Lib.hid (show valL (d.data.toList.take (k + 1)) = 10 * valL (d.data.toList.take k) + (d[k].toNat - 48) by rw [HT.out, valL_snoc])
            have HY := Lib.hid (show (d.data.toList.take (k + 1)).all digB = true by rw [HT.out, List.all_append, HD.out]; simp [digB_iff]; exact ⟨d1, d2⟩)
            clear HT
            generalize hg : valL (d.data.toList.take k) = v at *
            have HG := Lib.hid hg
            clear hg
            generalize hc : d[k].toNat = c at *
            have HC := Lib.hid hc
            clear hc
            have e1 : ¬ (c : Int) < 48 := by omega
            have e2 : ¬ 57 < (c : Int) := by omega
            have e3 : ¬ 9 < (d.size : Int) := by omega
            go_wp2
            go_roundw
            case rel => exact ⟨k + 1, by omega, rfl, by rw [HX.out]; congr 1; omega, HY.out, fun _ => hl9⟩
            case measure => simp; omega
          · have hn : R = none := by rw [HR.out]; exact numL_none_len (.inr (by rw [size_list]; omega))
            obtain ⟨rfl, rfl⟩ := HN.out hn
            generalize hc : d[k].toNat = c at *
            have HC := Lib.hid hc
            clear hc HT HN HK HR hn
            have e1 : ¬ (c : Int) < 48 := by omega
            have e2 : ¬ 57 < (c : Int) := by omega
            have e3 : 9 < (d.size : Int) := by omega
            go_wp2
            go_ret2
            exact ⟨rfl, iter_below _ _ _⟩
        · have hn : R = none := by rw [HR.out]; exact numL_none_dig hlt hdig
          obtain ⟨rfl, rfl⟩ := HN.out hn
          generalize hc : d[k].toNat = c at *
          have HC := Lib.hid hc
          clear hc HT HN HK HR hn
          by_cases d1 : c < 48
          · have e1 : (c : Int) < 48 := by omega
            go_wp2
            go_ret2
            exact ⟨rfl, iter_below _ _ _⟩
          · have e1 : ¬ (c : Int) < 48 := by omega
            have e2 : 57 < (c : Int) := by omega
            clear d1 hdig
            go_wp2
            go_ret2
            exact ⟨rfl, iter_below _ _ _⟩
      · have hnx : ∀ ty, (Instr.next (.pointer (some ⟨w.heap.size, 0, none⟩)) true ty).run Tryz.prog (w.iter d k) = _ := fun ty => run_next_any w d k ty hlt
        have hhi := (decode_high d k hlt (by omega)).1
        have hn : R = none := by rw [HR.out]; exact numL_none_dig hlt (by omega)
        obtain ⟨rfl, rfl⟩ := HN.out hn
        generalize hc : Utf8.decode d k = cc at *
        obtain ⟨c, wd⟩ := cc
        simp only at hhi hnx
        clear hc HN HK HR hn
        have e1 : ¬ (c : Int) < 48 := by omega
        have e2 : 57 < (c : Int) := by omega
        go_wp2
        go_ret2
        exact ⟨rfl, iter_below _ _ _⟩
    · obtain rfl : k = d.size := by omega
      have hnx : ∀ ty, (Instr.next (.pointer (some ⟨w.heap.size, 0, none⟩)) true ty).run Tryz.prog (w.iter d d.size) = _ := fun ty => run_next_end w d d.size ty (by omega)
      have hall : d.data.toList.take d.size = d.data.toList := List.take_of_length_le (by rw [size_list]; exact Nat.le_refl _)
      have hdd := HD.out
      rw [hall] at hdd hv3 ⊢
      by_cases h0 : d.size = 0
      · have hn : R = none := by rw [HR.out]; exact numL_none_len (.inl (by rw [size_list]; exact h0))
        obtain ⟨rfl, rfl⟩ := HN.out hn
        have hnil : d.toList = [] := by rw [Go.ByteArray.toList_eq]; exact List.eq_nil_of_length_eq_zero (by rw [size_list]; exact h0)
        have hnil2 : (d.toList == []) = true := by rw [hnil]; rfl
        have hl1 : ¬ (1 : Int) < (d.size : Int) := by omega
        clear hnil h0
        generalize valL d.data.toList = v at *
        clear HN HK HR hn HD hdd hall H9 HLEN
        go_wp2
        go_ret2
        exact ⟨rfl, iter_below _ _ _⟩
      have hnil : ¬ d.toList = [] := by rw [Go.ByteArray.toList_eq]; intro e; have e2 := size_list d; rw [e] at e2; exact h0 e2.symm
      have hnil2 : (d.toList == []) = false := beq_eq_false_iff_ne.2 hnil
      have hnil3 : d.toList.isEmpty = false := by rw [← Bool.not_eq_true, List.isEmpty_iff]; exact hnil
      have hpos : 0 < d.size := by omega
      have h9' := H9.out hpos
      by_cases h1 : 1 < d.size
      · have hl1 : (1 : Int) < (d.size : Int) := by omega
        by_cases hz : d[0].toNat = 48
        · have hn : R = none := by rw [HR.out]; exact numL_none_zero h1 hz
          obtain ⟨rfl, rfl⟩ := HN.out hn
          have hz3 : ((d[0].toNat : Int) == 48) = true := by rw [hz]; rfl
          generalize valL d.data.toList = v at *
          clear HN HK HR hn HD hdd hall H9 HLEN hz
          go_wp2
          go_ret2
          exact ⟨rfl, iter_below _ _ _⟩
        · have hz3 : ((d[0].toNat : Int) == 48) = false := beq_eq_false_iff_ne.2 (by omega)
          have hn : R = some (valL d.data.toList) := by rw [HR.out]; exact numL_some_of hpos h9' (fun _ => hz) hdd
          obtain ⟨hK1, hK2⟩ := HK.out _ hn
          generalize valL d.data.toList = v at *
          clear HN HK HR hn HD hdd hall H9 HLEN
          cases m
          · obtain ⟨rfl, rfl⟩ := hK2 rfl
            clear hK1 hK2
            go_wp2
            go_ret2
            exact ⟨rfl, iter_below _ _ _⟩
          · obtain ⟨hK3, hK4⟩ := hK1 rfl
            by_cases hv0 : v = 0
            · obtain ⟨rfl, rfl⟩ := hK3 hv0
              have hq : ((v : Int) == 0) = true := by simpa using hv0
              clear hK1 hK2 hK3 hK4 hv0
              go_wp2
              go_ret2
              exact ⟨rfl, iter_below _ _ _⟩
            · obtain ⟨rfl, rfl⟩ := hK4 (by omega)
              have hq : ((v : Int) == 0) = false := by simpa using hv0
              clear hK1 hK2 hK3 hK4 hv0
              go_wp2
              go_ret2
              exact ⟨rfl, iter_below _ _ _⟩
      · have hl1 : ¬ (1 : Int) < (d.size : Int) := by omega
        have hn : R = some (valL d.data.toList) := by rw [HR.out]; exact numL_some_of hpos h9' (fun h => absurd h h1) hdd
        obtain ⟨hK1, hK2⟩ := HK.out _ hn
        generalize valL d.data.toList = v at *
        clear HN HK HR hn HD hdd hall H9 HLEN
        cases m
        · obtain ⟨rfl, rfl⟩ := hK2 rfl
          clear hK1 hK2
          go_wp2
          go_ret2
          exact ⟨rfl, iter_below _ _ _⟩
        · obtain ⟨hK3, hK4⟩ := hK1 rfl
          by_cases hv0 : v = 0
          · obtain ⟨rfl, rfl⟩ := hK3 hv0
            have hq : ((v : Int) == 0) = true := by simpa using hv0
            clear hK1 hK2 hK3 hK4 hv0
            go_wp2
            go_ret2
            exact ⟨rfl, iter_below _ _ _⟩
          · obtain ⟨rfl, rfl⟩ := hK4 (by omega)
            have hq : ((v : Int) == 0) = false := by simpa using hv0
            clear hK1 hK2 hK3 hK4 hv0
            go_wp2
            go_ret2
            exact ⟨rfl, iter_below _ _ _⟩
theorem integer_P (s : ByteArray) (w : World) (hs : s.size ≤ 4096) : Calls Tryz.prog 77 #[.string s] w fun r w' => r = .returned (.tuple #[(.int .i64 (valS s.data.toList)), .bool (isS s.data.toList)]) ∧ Below w.heap.size w w' := by
  have e := sgnL_pre s.data.toList
  have hl : (trimPrefix s.data.toList [45]).length ≤ s.size := by
    unfold trimPrefix
    split
    · rw [List.length_drop, size_list]; omega
    · rw [size_list]; exact Nat.le_refl _
  refine integer_walk s ⟨(trimPrefix s.data.toList [45]).toArray⟩ (hasPrefix s.data.toList [45]) (numL (trimPrefix s.data.toList [45])) _ _ w (by rw [← size_list]; simpa using Nat.le_trans hl hs) rfl rfl rfl (fun h => ?_) (fun k h => ⟨fun hm => ⟨fun h0 => ?_, fun h0 => ?_⟩, fun hm => ?_⟩)
  · rw [h] at e
    unfold valS isS
    rw [e]
    exact ⟨rfl, rfl⟩
  · rw [h, hm] at e
    simp only [if_true] at e
    rw [if_neg (by omega)] at e
    unfold valS isS
    rw [e]
    exact ⟨rfl, rfl⟩
  · rw [h, hm] at e
    simp only [if_true] at e
    rw [if_pos h0] at e
    unfold valS isS
    rw [e]
    exact ⟨rfl, rfl⟩
  · rw [h, hm] at e
    simp only [Bool.false_eq_true, if_false] at e
    unfold valS isS
    rw [e]
    exact ⟨rfl, rfl⟩
end Go.Proofs.YtdeapbihbhoefaaGreatDoor

/- The program's reader: word and integers. -/
namespace Go.Proofs.YtdeapbihbhoefaaGreatDoor
open Go.RowKit
open Go.Lib
open Calm (bcell Blk)
/-- words, in a slice outside a block. -/
def WC (w : World) (g : Nat) (A : Option Addr) (W : List (List UInt8)) : Prop :=
  0 < W.length → ∃ b off, A = some ⟨b, off, none⟩ ∧ b ≠ g ∧ b < w.heap.size ∧ ∀ k x, W[k]? = some x → w.cell? ⟨b, off + k, none⟩ = some (.string ⟨x.toArray⟩)
theorem WC.but {w w' : World} {g : Nat} {A : Option Addr} {W : List (List UInt8)} (h : WC w g A W) (hb : But g w w') : WC w' g A W := by
  intro h0
  obtain ⟨b, off, h1, h2, h3, h4⟩ := h h0
  exact ⟨b, off, h1, h2, Nat.lt_of_lt_of_le h3 hb.size, fun k x hk => (World.cell?_of_block (w := w) (a := ⟨b, off + k, none⟩) (hb.block b ⟨h3, h2⟩)).trans (h4 k x hk)⟩
theorem WC.tail {w : World} {g b off : Nat} {x : List UInt8} {W : List (List UInt8)} (h : WC w g (some ⟨b, off, none⟩) (x :: W)) : WC w g (some ⟨b, off + 1, none⟩) W := by
  intro _
  obtain ⟨b', off', h1, h2, h3, h4⟩ := h (by simp)
  cases h1
  exact ⟨b, off + 1, rfl, h2, h3, fun k y hk => by rw [Nat.add_assoc, Nat.add_comm 1 k]; exact h4 (k + 1) y (by simpa using hk)⟩
theorem WC.nil {w : World} {g : Nat} (A : Option Addr) : WC w g A [] := fun h => absurd h (by simp)
/-- a reader in its block: the words that are left, and whether one was wrong. -/
def RdS (g : Nat) (W : List (List UInt8)) (wr : Bool) (w : World) : Prop := ∃ A, Blk w g #[.slice A W.length W.length, .bool wr] ∧ WC w g A W
def WB (W : List (List UInt8)) : Prop := W.length ≤ 5000 ∧ ∀ x ∈ W, x.length ≤ 4096
theorem WB.tail {x : List UInt8} {W : List (List UInt8)} (h : WB (x :: W)) : WB W := ⟨by have := h.1; simp at this; omega, fun y hy => h.2 y (List.mem_cons_of_mem _ hy)⟩
theorem rd_put1 {g : Nat} {W : List (List UInt8)} {wr : Bool} {w : World} (h : RdS g W wr w) (v : Bool) : RdS g W v (w.setCell ⟨g, 1, none⟩ (.bool v)) := by
  obtain ⟨A, h1, h2⟩ := h
  exact ⟨A, by simpa using h1.set (i := 1) (by simp) (.bool v), h2.but (But.put w 1 _)⟩
set_option maxHeartbeats 4000000 in
set_option maxRecDepth 100000 in
theorem word_nil (g : Nat) (A : Option Addr) (wr : Bool) (m : List UInt8) (w : World) (hB : Blk w g #[.slice A 0 0, .bool wr]) :
    Calls Tryz.prog 41 #[.pointer (some ⟨g, 0, none⟩), .string ⟨m.toArray⟩] w fun r w' => r = .returned (.tuple #[]) ∧ w' = w.setCell ⟨g, 1, none⟩ (.bool true) := by
  obtain ⟨f0, f1, fl, ff⟩ := hB.o2
  clear hB
  go_enter Tryz.func41, Tryz.ntmps41
  go_wp2
  exact bodyPost_ret (v := .tuple #[]) (by simp [results, Tryz.results41, go_sem]) rfl ⟨rfl, rfl⟩
set_option maxHeartbeats 4000000 in
set_option maxRecDepth 100000 in
theorem word_no (g b off n : Nat) (wr : Bool) (m x : List UInt8) (w : World) (hB : Blk w g #[.slice (some ⟨b, off, none⟩) (n + 1) (n + 1), .bool wr]) (hc : w.cell? ⟨b, off, none⟩ = some (.string ⟨x.toArray⟩)) (hn : n ≤ 5000) (hx : ¬ x = m) :
    Calls Tryz.prog 41 #[.pointer (some ⟨g, 0, none⟩), .string ⟨m.toArray⟩] w fun r w' => r = .returned (.tuple #[]) ∧ w' = w.setCell ⟨g, 1, none⟩ (.bool true) := by
  obtain ⟨f0, f1, fl, ff⟩ := hB.o2
  have e1 : (x == m) = false := beq_eq_false_iff_ne.2 hx
  have e2 : ((n : Int) + 1 == 0) = false := beq_eq_false_iff_ne.2 (by omega)
  clear hB hx
  go_enter Tryz.func41, Tryz.ntmps41
  go_wp2
  exact bodyPost_ret (v := .tuple #[]) (by simp [results, Tryz.results41, go_sem]) rfl ⟨rfl, rfl⟩
set_option maxHeartbeats 4000000 in
set_option maxRecDepth 100000 in
theorem word_yes_0 (g b off : Nat) (wr : Bool) (m x : List UInt8) (w : World) (hB : Blk w g #[.slice (some ⟨b, off, none⟩) (0 + 1) (0 + 1), .bool wr]) (hc : w.cell? ⟨b, off, none⟩ = some (.string ⟨x.toArray⟩)) (hx : x = m) :
    Calls Tryz.prog 41 #[.pointer (some ⟨g, 0, none⟩), .string ⟨m.toArray⟩] w fun r w' => r = .returned (.tuple #[]) ∧ w' = w.setCell ⟨g, 0, none⟩ (.slice (some ⟨b, off, none⟩) 0 0) := by
  obtain ⟨f0, f1, fl, ff⟩ := hB.o2
  subst hx
  clear hB
  go_enter Tryz.func41, Tryz.ntmps41
  go_wp2
  exact bodyPost_end (v := .tuple #[]) (by simp [results, Tryz.results41, go_sem]) rfl ⟨rfl, rfl⟩
set_option maxHeartbeats 4000000 in
set_option maxRecDepth 100000 in
theorem word_yes_1 (g b off n : Nat) (wr : Bool) (m x : List UInt8) (w : World) (hB : Blk w g #[.slice (some ⟨b, off, none⟩) (n + 1 + 1) (n + 1 + 1), .bool wr]) (hc : w.cell? ⟨b, off, none⟩ = some (.string ⟨x.toArray⟩)) (hn : n ≤ 5000) (hx : x = m) :
    Calls Tryz.prog 41 #[.pointer (some ⟨g, 0, none⟩), .string ⟨m.toArray⟩] w fun r w' => r = .returned (.tuple #[]) ∧ w' = w.setCell ⟨g, 0, none⟩ (.slice (some ⟨b, off + 1, none⟩) (n + 1) (n + 1)) := by
  obtain ⟨f0, f1, fl, ff⟩ := hB.o2
  subst hx
  have e2 : ((n : Int) + 1 + 1 == 0) = false := beq_eq_false_iff_ne.2 (by omega)
  clear hB
  go_enter Tryz.func41, Tryz.ntmps41
  go_wp2
  exact bodyPost_end (v := .tuple #[]) (by simp [results, Tryz.results41, go_sem]) rfl ⟨rfl, rfl⟩
theorem word_any (g : Nat) (W : List (List UInt8)) (wr : Bool) (m : List UInt8) (w : World) (hB : WB W) (h : RdS g W wr w) :
    Calls Tryz.prog 41 #[.pointer (some ⟨g, 0, none⟩), .string ⟨m.toArray⟩] w fun r w' => r = .returned (.tuple #[]) ∧ RdS g (wordR m (W, wr)).1 (wordR m (W, wr)).2 w' ∧ But g w w' := by
  have h' := h
  obtain ⟨A, h1, h2⟩ := h
  cases W with
  | nil => exact (word_nil g A wr m w h1).mono fun r w' ⟨e1, e2⟩ => ⟨e1, by rw [e2]; exact rd_put1 h' true, by rw [e2]; exact But.put w 1 _⟩
  | cons x R =>
    obtain ⟨b, off, rfl, hne, hl, hc⟩ := h2 (by simp)
    have hc0 := hc 0 x rfl
    by_cases hx : x = m
    · have e : wordR m (x :: R, wr) = (R, wr) := by simp [wordR, hx]
      rw [e]
      cases R with
      | nil => exact (word_yes_0 g b off wr m x w h1 hc0 hx).mono fun r w' ⟨e1, e2⟩ => ⟨e1, by rw [e2]; exact ⟨_, by simpa using h1.set (i := 0) (by simp) (.slice (some ⟨b, off, none⟩) 0 0), WC.nil _⟩, by rw [e2]; exact But.put w 0 _⟩
      | cons y R => exact (word_yes_1 g b off R.length wr m x w h1 hc0 (by have := hB.1; simp at this; omega) hx).mono fun r w' ⟨e1, e2⟩ => ⟨e1, by rw [e2]; exact ⟨_, by simpa using h1.set (i := 0) (by simp) (.slice (some ⟨b, off + 1, none⟩) (R.length + 1) (R.length + 1)), h2.tail.but (But.put w 0 _)⟩, by rw [e2]; exact But.put w 0 _⟩
    · have e : wordR m (x :: R, wr) = (x :: R, true) := by simp [wordR, hx]
      rw [e]
      exact (word_no g b off R.length wr m x w h1 hc0 (by have := hB.1; simp at this; omega) hx).mono fun r w' ⟨e1, e2⟩ => ⟨e1, by rw [e2]; exact rd_put1 h' true, by rw [e2]; exact But.put w 1 _⟩
end Go.Proofs.YtdeapbihbhoefaaGreatDoor

/- Contract of Print: a guard's words, joined. -/
namespace Go.Proofs.YtdeapbihbhoefaaGreatDoor
open Calm (bcell Blk)
open Go.RowKit

/-- what the library's and the program's variables hold. -/
structure PTab (w : World) : Prop where
  lim : Lim w
  pow : Lib.TabIs Tryz.prog w "internal/strconv.uint64pow10" .u64 Lib.pow10Tab
theorem gPow : Tryz.prog.globalNamed "internal/strconv.uint64pow10" = some 1 := by kernel_rfl
theorem var_lt {P : Program} {w : World} {n : String} {g : Nat} {cs : Array Value} (hg : P.globalNamed n = some g) (h : w.var? P n = some cs) : g < w.heap.size := by
  unfold World.var? at h
  rw [hg] at h
  simp only [Option.bind_some] at h
  rcases Nat.lt_or_ge g w.heap.size with h1 | h1
  · exact h1
  · rw [Array.getElem?_eq_none h1] at h
    simp at h
theorem PTab.below {w w' : World} (h : PTab w) (hb : Below w.heap.size w w') : PTab w' := ⟨h.lim.below hb, var?_below hb gPow (var_lt gPow h.pow) h.pow⟩
theorem below_grow (w : World) (n : Nat) (os : Array Obj) : Below w.heap.size w (Go.Sort.grow (w.drewN n) os) := by
  have h := below_drewN (Below.refl w.heap.size w) n
  refine ⟨h.os, h.tape, h.output, ?_, fun k hk => ?_⟩
  · show _ ≤ ((w.drewN n).heap ++ os).size
    have := h.size
    rw [Array.size_append]; omega
  · have e : (Go.Sort.grow (w.drewN n) os).heap[k]? = ((w.drewN n).heap ++ os)[k]? := rfl
    rw [e, Array.getElem?_append_left (Nat.lt_of_lt_of_le hk h.size)]
    exact h.block k hk
/-- a text as a value. -/
def sv (l : List UInt8) : Value := .string ⟨l.toArray⟩
theorem itoa_any (n : Int) (w : World) (hT : PTab w) (h0 : -9223372036854775808 ≤ n) (h1 : n ≤ 9223372036854775807) :
    Calls Tryz.prog 36 #[(.int .i64 n)] w fun r w' => r = .returned (sv (Lib.itoa n)) ∧ Below w.heap.size w w' :=
  (Tryz.strconv_Itoa n h0 h1 w hT.pow).mono fun _ _ ⟨h, k, os, e⟩ => ⟨h, e ▸ below_grow w k os⟩
theorem Tryz.infoS : (Tryz.prog.info? 9).map (fun i => (i.zero, i.size, i.bytes)) = some (some (.string ⟨#[]⟩), 1, 16) := by kernel_rfl
/-- an integer that a register holds. -/
def inW (l : List Int) : Prop := ∀ k : Nat, -9223372036854775808 ≤ l.getD k 0 ∧ l.getD k 0 ≤ 9223372036854775807
def strK (l : List Int) (k : Nat) : List Value := (l.take k).map fun n => sv (Lib.itoa n)
theorem strK_len {l : List Int} {k : Nat} (hk : k ≤ l.length) : (strK l k).length = k := by simp [strK]; omega
theorem strK_succ {l : List Int} {k : Nat} (hk : k < l.length) : strK l (k + 1) = strK l k ++ [sv (Lib.itoa (l.getD k 0))] := by
  unfold strK
  rw [List.take_succ_eq_append_getElem hk, List.map_append, List.getD_eq_getElem?_getD, List.getElem?_eq_getElem hk]
  rfl

set_option maxRecDepth 100000 in
set_option maxHeartbeats 2000000 in
theorem mappedS_any (A : Option Addr) (l : List Int) (N c : Nat) (w : World) (hN : N = l.length) (hT : PTab w) (hC : Cells w A l) (hn : N ≤ 5000) (hb : inW l) :
    Calls Tryz.prog 37 #[.slice A N c, .func (.func 36) #[] #[]] w fun r w' =>
      (∃ v, r = .returned v ∧ w'.ownsRow w.heap.size 9 1 v N (l.map fun n => sv (Lib.itoa n))) ∧ Below w.heap.size w w' := by
  obtain ⟨i0, hii, hz0, hz1, hz2⟩ := info_parts Tryz.infoS
  have HC := Lib.hid hC
  have HT := Lib.hid hT
  have HN := Lib.hid hN
  have HW := Lib.hid hb
  have HL : Hid (∀ k, k ≤ N → (strK l k).length = k) := Lib.hid (fun k hk => strK_len (by rw [← hN]; exact hk))
  clear hN hC hT hb
  go_enter Tryz.func37, Tryz.ntmps37
  go_wp2
  go_loopw [5, 10] (fun v i wr => ∃ k : Nat, k ≤ N ∧ i = (.int .i64 ((k : Int))) ∧ wr.ownsRow w.heap.size 9 1 v (strK l k).length (strK l k) ∧ Below w.heap.size w wr) (fun _ i _ => N - (RowKit.intOf i).toNat)
  case atStart => exact ⟨0, Nat.zero_le _, rfl, World.ownsRow_nil _ _ _ _, Below.refl _ _⟩
  case round =>
    obtain ⟨k, hk, rfl, hown, hB⟩ := hrel
    have HO := Lib.hid hown
    have hle := Lib.hid (HL.out k hk)
    have hsz := hB.size
    have HB := Lib.hid hB
    clear hown
    by_cases hlt : k < N
    · obtain ⟨b, o, rfl, l1, k1⟩ := HC.out (by rw [← HN.out]; omega)
      have x1 := (hB.cell (p := ⟨b, o + k, none⟩) l1).trans (k1 k (by rw [← HN.out]; exact hlt))
      have HS := Lib.hid (strK_succ (l := l) (k := k) (by rw [← HN.out]; exact hlt))
      obtain ⟨w1, w2⟩ := HW.out k
      obtain ⟨x, hx⟩ : ∃ x, x = l.getD k 0 := ⟨_, rfl⟩
      rw [← hx] at x1 HS w1 w2
      unfold sv at HS
      obtain ⟨S, hS⟩ : ∃ S : ByteArray, S = ⟨(Lib.itoa x).toArray⟩ := ⟨_, rfl⟩
      have HIT : Hid (∀ W, PTab W → Calls Tryz.prog 36 #[(.int .i64 x)] W fun r w' => r = .returned (.string S) ∧ Below W.heap.size W w') := Lib.hid (fun W h => by rw [hS]; exact itoa_any x W h w1 w2)
      rw [← hS] at HS
      clear k1 hx hS hB
      go_wp2_with (first
        | (go_at_call 36; refine (HIT.out _ (HT.out.below HB.out)).mono ?_; rintro r w3 ⟨rfl, hb3⟩; have HB3 := Lib.hid (HB.out.trans (hb3.mono hsz)); have HO3 := Lib.hid (ownsRow_below HO.out hb3); have hs3 := hb3.size; clear hb3)
        | (at_builtin; refine wpList_append_own _ rfl _ _ 74 rfl w.heap.size 9 i0 (.string ⟨#[]⟩) 1 16 Tryz.underlying74 hii hz0 hz1 hz2 rfl (by decide) _ _ _ rfl (HO3.out.alloc _) ⟨w3.heap.size, 0, none⟩ 1 1 [.string S] rfl rfl ?c1 ?c2 ?c3 ?c4 ?c5 ?_))
      case c1 =>
        intro j u hj
        match j, hj with
        | 0, hj => simp at hj; subst hj; simp [Addr.add]
      case c2 => intro u hu; simp at hu; subst hu; rfl
      case c3 => have := hle.out; unfold maxLen; omega
      case c4 => have := hle.out; omega
      case c5 => simp; omega
      intro v' w4 hown' hgrow _
      have hB' : Below w.heap.size w w4 := (HB3.out.alloc HB3.out.size _).grown hgrow (by simp; omega) (fun j hj => (HO.out.lt j hj).1)
      have HO' := Lib.hid hown'
      have HB' := Lib.hid hB'
      clear hgrow hown' hB'
      go_wp2
      go_roundw
      case rel => exact ⟨k + 1, by omega, by go_num, by rw [HS.out]; simpa using HO'.out, HB'.out⟩
      case measure => simp [RowKit.intOf]; omega
    · obtain rfl : k = N := by omega
      have hown := HO.out
      have e : strK l k = l.map fun n => sv (Lib.itoa n) := by unfold strK; rw [HN.out, List.take_length]
      rw [hle.out, e] at hown
      have HR := Lib.hid hown
      clear hown e hB
      go_wp2
      go_ret
      exact ⟨⟨_, rfl, HR.out⟩, HB.out⟩
end Go.Proofs.YtdeapbihbhoefaaGreatDoor
