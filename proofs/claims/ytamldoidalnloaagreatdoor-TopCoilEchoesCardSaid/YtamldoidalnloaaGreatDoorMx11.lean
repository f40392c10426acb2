/- Part 11 of the texts of the claim: Shelf, Tj3, Tj4, Tj5, Tj6. -/
import Derived.Shelf.Strings.Builder1
import Derived.Shelf.Strconv.Atoi
import Derived.Shelf.Strconv.Itoa0
import Derived.Shelf.Strconv.Itoa1
import Derived.Shelf.LaysM
import Derived.Shelf.Strconv.Itoa2
import Derived.Shelf.Strconv.Itoa3
import Derived.Shelf.Strconv.AtoiErrFast
import Derived.Shelf.Strconv.ParseIntEmpty
import Derived.Shelf.Strconv.AtoiFail
import Derived.Shelf.Strconv.Clone
import Derived.Shelf.Strconv.SyntaxError
import Derived.Shelf.LaysC
import Derived.Shelf.Strconv.ToError
import Derived.Shelf.Strconv.Lower
import Derived.Shelf.Strconv.ParseUint10
import Derived.Shelf.Strconv.ParseUint10Empty
import Derived.Shelf.Strconv.ParseUint10Any
import Derived.Shelf.Strconv.ParseInt10
import Derived.Shelf.Strconv.AtoiLong
import Derived.Shelf.Strconv.AtoiInnerAll
import Derived.Shelf.Strconv.RangeError
import Derived.Shelf.Strconv.ToErrorRange
import Derived.Shelf.Strconv.AtoiAll
import Derived.Shelf.Strconv.ErrVarAll
import Derived.Shelf.Strings.Search1
import Derived.Shelf.Strings.Search2
import Derived.Shelf.Strings.Search3
import Derived.Shelf.Strings.Cut
import Derived.Shelf.Strings.Count
import Derived.Shelf.Strings.Shaped
import Derived.Shelf.Strings.Prefix
import Derived.Shelf.Strings.Split
import Derived.Shelf.Unicode.DecodeSlow
import Derived.Shelf.Slices.Reverse
import Derived.Test.YtamldoidalnloaaGreatDoorProg
import Derived.Test.YtamldoidalnloaaGreatDoorMx8
import Derived.Lib.LaidTab
import Derived.Lib.ItoaLen
import Derived.Test.YtamldoidalnloaaGreatDoorMx3
import Derived.Test.YtamldoidalnloaaGreatDoorMx9
import Derived.Lib.OwnBridge
import Derived.Lib.Builder
import Derived.Lib.AppendStr

/- Contracts of the library at this program, in plain words (written by the kit's own tool, cut to what is used). -/
namespace Go.Proofs
open Go.Shelf
def Tryz.lays169_ren : Go.Shelf.Ren := ⟨fun | 169 => 37 | n => n, fun | 70 => 68 | 9 => 9 | 0 => 0 | 72 => 70 | 37 => 36 | 127 => 99 | 3 => 3 | 5 => 5 | n => n, fun | n => n⟩
theorem Tryz.lays169 : Go.Proofs.Lays.n169 Tryz.prog Tryz.lays169_ren := {
  mixed := by kernel_rfl
  f169 := Tryz.func37.trans (congrArg some (by kernel_rfl))
  t0 := Tryz.underlying0
  a0 := Tryz.isAgg0
  z0 := Tryz.sizeOf0
  v0 := Tryz.zeroValue0
  t3 := Tryz.underlying3
  a3 := Tryz.isAgg3
  z3 := Tryz.sizeOf3
  v3 := Tryz.zeroValue3
  t9 := Tryz.underlying9
  a9 := Tryz.isAgg9
  z9 := Tryz.sizeOf9
  v9 := Tryz.zeroValue9
  t37 := Tryz.underlying36
  a37 := Tryz.isAgg36
  z37 := Tryz.sizeOf36
  v37 := Tryz.zeroValue36
  t70 := Tryz.underlying68
  a70 := Tryz.isAgg68
  z70 := Tryz.sizeOf68
  v70 := Tryz.zeroValue68
  t72 := Tryz.underlying70
  a72 := Tryz.isAgg70
  z72 := Tryz.sizeOf70
  v72 := Tryz.zeroValue70
  t127 := Tryz.underlying99
  a127 := Tryz.isAgg99
  z127 := Tryz.sizeOf99
  v127 := Tryz.zeroValue99 }
theorem Tryz.Builder_Extra_169 : Builder.Extra Tryz.prog Tryz.lays169_ren := {
  sizeBuilder := by kernel_rfl
  liesBuilder := by kernel_rfl
  t5 := Tryz.underlying5
  a5 := Tryz.isAgg5
  z5 := Tryz.sizeOf5
  v5 := Tryz.zeroValue5
  infoByte := by kernel_rfl
  cellsByte := by kernel_rfl
  sizeByte := by kernel_rfl
  neB5 := by decide }
open Go.RowKit in
theorem Tryz.Builder_String_any (B b : Nat) (l : List UInt8) (w : World) (h : Lib.IsBuilder 70 5 B b (Lib.byteCells l) w) (hBw : B ≤ w.heap.size) :
    Calls Tryz.prog 37 #[.pointer (some ⟨b, 0, none⟩)] w fun e w' => e = .returned (.string ⟨l.toArray⟩) ∧ Below B w w' := Any.Builder_String_any Tryz.lays169 Tryz.Builder_Extra_169 B b l w h hBw
def Tryz.laysM171_ren : Go.Shelf.Ren := ⟨fun | 171 => 36 | 243 => 55 | 246 => 70 | 283 => 81 | 284 => 82 | 285 => 83 | 286 => 84 | 129 => 100 | 317 => 99 | 318 => 101 | 319 => 102 | 320 => 103 | 337 => 110 | 338 => 111 | n => n, fun | 3 => 3 | 9 => 9 | 2 => 2 | 4 => 4 | 171 => 122 | 0 => 0 | 53 => 123 | 37 => 36 | 5 => 5 | 173 => 126 | 212 => 140 | 51 => 64 | 20 => 20 | 213 => 141 | 46 => 98 | 232 => 161 | 233 => 162 | n => n, fun | 17 => 2 | 18 => 7 | 19 => 8 | n => n⟩
theorem Tryz.laysM171 : Go.Proofs.LaysM.n171 Tryz.prog Tryz.laysM171_ren := {
  mixed := by kernel_rfl
  f129 := Tryz.func100.trans (congrArg some (by kernel_rfl))
  f171 := Tryz.func36.trans (congrArg some (by kernel_rfl))
  f243 := Tryz.func55.trans (congrArg some (by kernel_rfl))
  f246 := Tryz.func70.trans (congrArg some (by kernel_rfl))
  f283 := Tryz.func81.trans (congrArg some (by kernel_rfl))
  f284 := Tryz.func82.trans (congrArg some (by kernel_rfl))
  f285 := Tryz.func83.trans (congrArg some (by kernel_rfl))
  f286 := Tryz.func84.trans (congrArg some (by kernel_rfl))
  f317 := Tryz.func99.trans (congrArg some (by kernel_rfl))
  f318 := Tryz.func101.trans (congrArg some (by kernel_rfl))
  f319 := Tryz.func102.trans (congrArg some (by kernel_rfl))
  f320 := Tryz.func103.trans (congrArg some (by kernel_rfl))
  f337 := Tryz.func110.trans (congrArg some (by kernel_rfl))
  f338 := Tryz.func111.trans (congrArg some (by kernel_rfl))
  t0 := Tryz.underlying0
  a0 := Tryz.isAgg0
  z0 := Tryz.sizeOf0
  v0 := Tryz.zeroValue0
  t2 := Tryz.underlying2
  a2 := Tryz.isAgg2
  z2 := Tryz.sizeOf2
  v2 := Tryz.zeroValue2
  t3 := Tryz.underlying3
  a3 := Tryz.isAgg3
  z3 := Tryz.sizeOf3
  v3 := Tryz.zeroValue3
  t4 := Tryz.underlying4
  a4 := Tryz.isAgg4
  z4 := Tryz.sizeOf4
  v4 := Tryz.zeroValue4
  t5 := Tryz.underlying5
  a5 := Tryz.isAgg5
  z5 := Tryz.sizeOf5
  v5 := Tryz.zeroValue5
  t9 := Tryz.underlying9
  a9 := Tryz.isAgg9
  z9 := Tryz.sizeOf9
  v9 := Tryz.zeroValue9
  t20 := Tryz.underlying20
  a20 := Tryz.isAgg20
  z20 := Tryz.sizeOf20
  v20 := Tryz.zeroValue20
  t37 := Tryz.underlying36
  a37 := Tryz.isAgg36
  z37 := Tryz.sizeOf36
  v37 := Tryz.zeroValue36
  t46 := Tryz.underlying98
  a46 := Tryz.isAgg98
  z46 := Tryz.sizeOf98
  v46 := Tryz.zeroValue98
  t51 := Tryz.underlying64
  a51 := Tryz.isAgg64
  z51 := Tryz.sizeOf64
  v51 := Tryz.zeroValue64
  t53 := Tryz.underlying123
  a53 := Tryz.isAgg123
  z53 := Tryz.sizeOf123
  v53 := Tryz.zeroValue123
  t171 := Tryz.underlying122
  a171 := Tryz.isAgg122
  z171 := Tryz.sizeOf122
  v171 := Tryz.zeroValue122
  t173 := Tryz.underlying126
  a173 := Tryz.isAgg126
  z173 := Tryz.sizeOf126
  v173 := Tryz.zeroValue126
  t212 := Tryz.underlying140
  a212 := Tryz.isAgg140
  z212 := Tryz.sizeOf140
  v212 := Tryz.zeroValue140
  t213 := Tryz.underlying141
  a213 := Tryz.isAgg141
  z213 := Tryz.sizeOf141
  t232 := Tryz.underlying161
  a232 := Tryz.isAgg161
  z232 := Tryz.sizeOf161
  v232 := Tryz.zeroValue161
  t233 := Tryz.underlying162
  a233 := Tryz.isAgg162
  z233 := Tryz.sizeOf162
  v233 := Tryz.zeroValue162
  g17 := by kernel_rfl
  g18 := by kernel_rfl
  g19 := by kernel_rfl
  i0 := by kernel_rfl
  i2 := by kernel_rfl
  i3 := by kernel_rfl
  i4 := by kernel_rfl
  i5 := by kernel_rfl
  i9 := by kernel_rfl
  i20 := by kernel_rfl
  i37 := by kernel_rfl
  i46 := by kernel_rfl
  i51 := by kernel_rfl
  i53 := by kernel_rfl
  i171 := by kernel_rfl
  i173 := by kernel_rfl
  i212 := by kernel_rfl
  i232 := by kernel_rfl
  i233 := by kernel_rfl
  m17 := by kernel_rfl
  m18 := by kernel_rfl
  m19 := by kernel_rfl }
open Go.RowKit Go.Sort Go.Lib in
theorem Tryz.strconv_Itoa (n : Int) (h0 : -9223372036854775808 ≤ n) (h1 : n ≤ 9223372036854775807) (w : World) (htab : Lib.TabIs Tryz.prog w "internal/strconv.uint64pow10" .u64 Lib.pow10Tab) :
    Calls Tryz.prog 36 #[.int .i64 n] w fun e w' => e = .returned (.string ⟨(Lib.itoa n).toArray⟩) ∧ ∃ k os, w' = grow (w.drewN k) os := Any.strconv_Itoa Tryz.laysM171 n h0 h1 w htab
def Tryz.laysC172_ren : Go.Shelf.Ren := ⟨fun | 172 => 59 | 244 => 75 | 245 => 76 | 247 => 92 | 279 => 93 | 280 => 94 | 281 => 95 | 282 => 96 | 287 => 107 | 316 => 108 | 171 => 36 | 205 => 109 | 321 => 112 | 322 => 113 | 243 => 55 | 246 => 70 | 283 => 81 | 284 => 82 | 285 => 83 | 286 => 84 | 129 => 100 | 317 => 99 | 318 => 101 | 319 => 102 | 320 => 103 | 337 => 110 | 338 => 111 | n => n, fun | 9 => 9 | 3 => 3 | 75 => 72 | 76 => 73 | 4 => 4 | 5 => 5 | 167 => 131 | 37 => 36 | 0 => 0 | 85 => 132 | 2 => 2 | 168 => 134 | 53 => 123 | 175 => 146 | 46 => 98 | 210 => 150 | 127 => 99 | 145 => 160 | 143 => 158 | 21 => 21 | 171 => 122 | 173 => 126 | 212 => 140 | 51 => 64 | 20 => 20 | 213 => 141 | 232 => 161 | 233 => 162 | 80 => 76 | n => n, fun | 15 => 3 | 16 => 4 | 17 => 2 | 18 => 7 | 19 => 8 | n => n⟩
theorem Tryz.laysC172 : Go.Proofs.LaysC.n172 Tryz.prog Tryz.laysC172_ren := {
  mixed := by kernel_rfl
  f129 := Tryz.func100.trans (congrArg some (by kernel_rfl))
  f171 := Tryz.func36.trans (congrArg some (by kernel_rfl))
  f172 := Tryz.func59.trans (congrArg some (by kernel_rfl))
  f205 := Tryz.func109.trans (congrArg some (by kernel_rfl))
  f243 := Tryz.func55.trans (congrArg some (by kernel_rfl))
  f244 := Tryz.func75.trans (congrArg some (by kernel_rfl))
  f245 := Tryz.func76.trans (congrArg some (by kernel_rfl))
  f246 := Tryz.func70.trans (congrArg some (by kernel_rfl))
  f247 := Tryz.func92.trans (congrArg some (by kernel_rfl))
  f279 := Tryz.func93.trans (congrArg some (by kernel_rfl))
  f280 := Tryz.func94.trans (congrArg some (by kernel_rfl))
  f281 := Tryz.func95.trans (congrArg some (by kernel_rfl))
  f282 := Tryz.func96.trans (congrArg some (by kernel_rfl))
  f283 := Tryz.func81.trans (congrArg some (by kernel_rfl))
  f284 := Tryz.func82.trans (congrArg some (by kernel_rfl))
  f285 := Tryz.func83.trans (congrArg some (by kernel_rfl))
  f286 := Tryz.func84.trans (congrArg some (by kernel_rfl))
  f287 := Tryz.func107.trans (congrArg some (by kernel_rfl))
  f316 := Tryz.func108.trans (congrArg some (by kernel_rfl))
  f317 := Tryz.func99.trans (congrArg some (by kernel_rfl))
  f318 := Tryz.func101.trans (congrArg some (by kernel_rfl))
  f319 := Tryz.func102.trans (congrArg some (by kernel_rfl))
  f320 := Tryz.func103.trans (congrArg some (by kernel_rfl))
  f321 := Tryz.func112.trans (congrArg some (by kernel_rfl))
  f322 := Tryz.func113.trans (congrArg some (by kernel_rfl))
  f337 := Tryz.func110.trans (congrArg some (by kernel_rfl))
  f338 := Tryz.func111.trans (congrArg some (by kernel_rfl))
  t0 := Tryz.underlying0
  a0 := Tryz.isAgg0
  z0 := Tryz.sizeOf0
  v0 := Tryz.zeroValue0
  t2 := Tryz.underlying2
  a2 := Tryz.isAgg2
  z2 := Tryz.sizeOf2
  v2 := Tryz.zeroValue2
  t3 := Tryz.underlying3
  a3 := Tryz.isAgg3
  z3 := Tryz.sizeOf3
  v3 := Tryz.zeroValue3
  t4 := Tryz.underlying4
  a4 := Tryz.isAgg4
  z4 := Tryz.sizeOf4
  v4 := Tryz.zeroValue4
  t5 := Tryz.underlying5
  a5 := Tryz.isAgg5
  z5 := Tryz.sizeOf5
  v5 := Tryz.zeroValue5
  t9 := Tryz.underlying9
  a9 := Tryz.isAgg9
  z9 := Tryz.sizeOf9
  v9 := Tryz.zeroValue9
  t20 := Tryz.underlying20
  a20 := Tryz.isAgg20
  z20 := Tryz.sizeOf20
  v20 := Tryz.zeroValue20
  t21 := Tryz.underlying21
  a21 := Tryz.isAgg21
  z21 := Tryz.sizeOf21
  v21 := Tryz.zeroValue21
  t37 := Tryz.underlying36
  a37 := Tryz.isAgg36
  z37 := Tryz.sizeOf36
  v37 := Tryz.zeroValue36
  t46 := Tryz.underlying98
  a46 := Tryz.isAgg98
  z46 := Tryz.sizeOf98
  v46 := Tryz.zeroValue98
  t51 := Tryz.underlying64
  a51 := Tryz.isAgg64
  z51 := Tryz.sizeOf64
  v51 := Tryz.zeroValue64
  t53 := Tryz.underlying123
  a53 := Tryz.isAgg123
  z53 := Tryz.sizeOf123
  v53 := Tryz.zeroValue123
  t75 := Tryz.underlying72
  a75 := Tryz.isAgg72
  z75 := Tryz.sizeOf72
  v75 := Tryz.zeroValue72
  t76 := Tryz.underlying73
  a76 := Tryz.isAgg73
  z76 := Tryz.sizeOf73
  v76 := Tryz.zeroValue73
  t85 := Tryz.underlying132
  a85 := Tryz.isAgg132
  z85 := Tryz.sizeOf132
  v85 := Tryz.zeroValue132
  t127 := Tryz.underlying99
  a127 := Tryz.isAgg99
  z127 := Tryz.sizeOf99
  v127 := Tryz.zeroValue99
  t143 := Tryz.underlying158
  a143 := Tryz.isAgg158
  z143 := Tryz.sizeOf158
  v143 := Tryz.zeroValue158
  t145 := Tryz.underlying160
  a145 := Tryz.isAgg160
  z145 := Tryz.sizeOf160
  v145 := Tryz.zeroValue160
  t167 := Tryz.underlying131
  a167 := Tryz.isAgg131
  z167 := Tryz.sizeOf131
  v167 := Tryz.zeroValue131
  t168 := Tryz.underlying134
  a168 := Tryz.isAgg134
  z168 := Tryz.sizeOf134
  v168 := Tryz.zeroValue134
  t171 := Tryz.underlying122
  a171 := Tryz.isAgg122
  z171 := Tryz.sizeOf122
  v171 := Tryz.zeroValue122
  t173 := Tryz.underlying126
  a173 := Tryz.isAgg126
  z173 := Tryz.sizeOf126
  v173 := Tryz.zeroValue126
  t175 := Tryz.underlying146
  a175 := Tryz.isAgg146
  z175 := Tryz.sizeOf146
  v175 := Tryz.zeroValue146
  t210 := Tryz.underlying150
  a210 := Tryz.isAgg150
  z210 := Tryz.sizeOf150
  v210 := Tryz.zeroValue150
  t212 := Tryz.underlying140
  a212 := Tryz.isAgg140
  z212 := Tryz.sizeOf140
  v212 := Tryz.zeroValue140
  t213 := Tryz.underlying141
  a213 := Tryz.isAgg141
  z213 := Tryz.sizeOf141
  t232 := Tryz.underlying161
  a232 := Tryz.isAgg161
  z232 := Tryz.sizeOf161
  v232 := Tryz.zeroValue161
  t233 := Tryz.underlying162
  a233 := Tryz.isAgg162
  z233 := Tryz.sizeOf162
  v233 := Tryz.zeroValue162
  g15 := by kernel_rfl
  g16 := by kernel_rfl
  g17 := by kernel_rfl
  g18 := by kernel_rfl
  g19 := by kernel_rfl
  t80 := Tryz.underlying76
  a80 := Tryz.isAgg76
  z80 := Tryz.sizeOf76
  v80 := Tryz.zeroValue76
  i0 := by kernel_rfl
  i2 := by kernel_rfl
  i3 := by kernel_rfl
  i4 := by kernel_rfl
  i5 := by kernel_rfl
  i9 := by kernel_rfl
  i20 := by kernel_rfl
  i21 := by kernel_rfl
  i37 := by kernel_rfl
  i46 := by kernel_rfl
  i51 := by kernel_rfl
  i53 := by kernel_rfl
  i75 := by kernel_rfl
  i76 := by kernel_rfl
  i80 := by kernel_rfl
  i85 := by kernel_rfl
  i127 := by kernel_rfl
  i143 := by kernel_rfl
  i145 := by kernel_rfl
  i167 := by kernel_rfl
  i168 := by kernel_rfl
  i171 := by kernel_rfl
  i173 := by kernel_rfl
  i175 := by kernel_rfl
  i210 := by kernel_rfl
  i212 := by kernel_rfl
  i232 := by kernel_rfl
  i233 := by kernel_rfl
  m15 := by kernel_rfl
  m16 := by kernel_rfl
  m17 := by kernel_rfl
  m18 := by kernel_rfl
  m19 := by kernel_rfl
  c0 := by kernel_rfl
  c2 := by kernel_rfl
  c3 := by kernel_rfl
  c4 := by kernel_rfl
  c5 := by kernel_rfl
  c9 := by kernel_rfl
  c20 := by kernel_rfl
  c21 := by kernel_rfl
  c37 := by kernel_rfl
  c46 := by kernel_rfl
  c51 := by kernel_rfl
  c53 := by kernel_rfl
  c75 := by kernel_rfl
  c76 := by kernel_rfl
  c80 := by kernel_rfl
  c85 := by kernel_rfl
  c127 := by kernel_rfl
  c143 := by kernel_rfl
  c145 := by kernel_rfl
  c167 := by kernel_rfl
  c168 := by kernel_rfl
  c171 := by kernel_rfl
  c173 := by kernel_rfl
  c175 := by kernel_rfl
  c210 := by kernel_rfl
  c212 := by kernel_rfl
  c213 := by kernel_rfl
  c232 := by kernel_rfl
  c233 := by kernel_rfl }
open Go.RowKit in
theorem Tryz.strconv_Atoi_ok (s : ByteArray) (hmax : s.size ≤ 9223372036854775806) (v : Int) (h : Lib.atoiAll s.data.toList = .ok v) (w : World) :
    Calls Tryz.prog 59 #[.string s] w fun e w' => e = .returned (.tuple #[.int .i64 v, .nilIface]) ∧ (w' = w ∨ ∃ t, w' = Lib.bytesWorld w 5 t) := Any.strconv_Atoi_ok Tryz.laysC172 s hmax v h w
def Tryz.lays145_ren : Go.Shelf.Ren := ⟨fun | 145 => 38 | 220 => 56 | 219 => 71 | 217 => 85 | 225 => 86 | 224 => 87 | 267 => 88 | 266 => 104 | 314 => 105 | n => n, fun | 9 => 9 | 4 => 4 | 59 => 77 | 3 => 3 | 5 => 5 | 46 => 98 | 146 => 144 | 51 => 64 | n => n, fun | 1 => 1 | n => n⟩
theorem Tryz.lays145 : Go.Proofs.Lays.n145 Tryz.prog Tryz.lays145_ren := {
  mixed := by kernel_rfl
  f145 := Tryz.func38.trans (congrArg some (by kernel_rfl))
  f217 := Tryz.func85.trans (congrArg some (by kernel_rfl))
  f219 := Tryz.func71.trans (congrArg some (by kernel_rfl))
  f220 := Tryz.func56.trans (congrArg some (by kernel_rfl))
  f224 := Tryz.func87.trans (congrArg some (by kernel_rfl))
  f225 := Tryz.func86.trans (congrArg some (by kernel_rfl))
  f266 := Tryz.func104.trans (congrArg some (by kernel_rfl))
  f267 := Tryz.func88.trans (congrArg some (by kernel_rfl))
  f314 := Tryz.func105.trans (congrArg some (by kernel_rfl))
  t3 := Tryz.underlying3
  a3 := Tryz.isAgg3
  z3 := Tryz.sizeOf3
  v3 := Tryz.zeroValue3
  t4 := Tryz.underlying4
  a4 := Tryz.isAgg4
  z4 := Tryz.sizeOf4
  v4 := Tryz.zeroValue4
  t5 := Tryz.underlying5
  a5 := Tryz.isAgg5
  z5 := Tryz.sizeOf5
  v5 := Tryz.zeroValue5
  t9 := Tryz.underlying9
  a9 := Tryz.isAgg9
  z9 := Tryz.sizeOf9
  v9 := Tryz.zeroValue9
  t46 := Tryz.underlying98
  a46 := Tryz.isAgg98
  z46 := Tryz.sizeOf98
  v46 := Tryz.zeroValue98
  t51 := Tryz.underlying64
  a51 := Tryz.isAgg64
  z51 := Tryz.sizeOf64
  v51 := Tryz.zeroValue64
  t59 := Tryz.underlying77
  a59 := Tryz.isAgg77
  z59 := Tryz.sizeOf77
  v59 := Tryz.zeroValue77
  t146 := Tryz.underlying144
  a146 := Tryz.isAgg144
  z146 := Tryz.sizeOf144
  v146 := Tryz.zeroValue144
  g1 := by kernel_rfl }
open Go.RowKit Go.Lib in
theorem Tryz.strings_Cut (s sep : ByteArray) (m : Int) (w : World) (hs : s.size < 4294967281) (hm : w.cell? ⟨1, 0, none⟩ = some (.int .i64 m)) :
    Calls Tryz.prog 38 #[.string s, .string sep] w fun e w' => e = .returned (.tuple #[.string ⟨(Lib.cut s.data.toList sep.data.toList).1.toArray⟩, .string ⟨(Lib.cut s.data.toList sep.data.toList).2.1.toArray⟩, .bool (Lib.cut s.data.toList sep.data.toList).2.2]) ∧ ∃ n, w' = w.drewN n := Any.strings_Cut Tryz.lays145 s sep m w hs hm
def Tryz.lays101_ren : Go.Shelf.Ren := ⟨fun | 101 => 60 | 208 => 77 | 206 => 97 | n => n, fun | 9 => 9 | 4 => 4 | 3 => 3 | n => n, fun | n => n⟩
theorem Tryz.lays101 : Go.Proofs.Lays.n101 Tryz.prog Tryz.lays101_ren := {
  mixed := by kernel_rfl
  f101 := Tryz.func60.trans (congrArg some (by kernel_rfl))
  f206 := Tryz.func97.trans (congrArg some (by kernel_rfl))
  f208 := Tryz.func77.trans (congrArg some (by kernel_rfl))
  t3 := Tryz.underlying3
  a3 := Tryz.isAgg3
  z3 := Tryz.sizeOf3
  v3 := Tryz.zeroValue3
  t4 := Tryz.underlying4
  a4 := Tryz.isAgg4
  z4 := Tryz.sizeOf4
  v4 := Tryz.zeroValue4
  t9 := Tryz.underlying9
  a9 := Tryz.isAgg9
  z9 := Tryz.sizeOf9
  v9 := Tryz.zeroValue9 }
open Go.RowKit Go.Lib in
theorem Tryz.strings_TrimPrefix (s p : ByteArray) (w : World) :
    Calls Tryz.prog 60 #[.string s, .string p] w fun e w' => e = .returned (.string ⟨(Lib.trimPrefix s.data.toList p.data.toList).toArray⟩) ∧ w' = w := Any.strings_TrimPrefix Tryz.lays101 s p w
def Tryz.lays146_ren : Go.Shelf.Ren := ⟨fun | 146 => 39 | 221 => 57 | 268 => 72 | 138 => 73 | 143 => 74 | 195 => 89 | 197 => 90 | 218 => 91 | 219 => 71 | 260 => 106 | 217 => 85 | 225 => 86 | 224 => 87 | 267 => 88 | 266 => 104 | 314 => 105 | n => n, fun | 9 => 9 | 31 => 80 | 3 => 3 | 4 => 4 | 0 => 0 | 105 => 129 | 21 => 21 | 5 => 5 | 46 => 98 | 119 => 153 | 139 => 156 | 138 => 155 | 146 => 144 | 51 => 64 | n => n, fun | 1 => 1 | 3 => 5 | 4 => 6 | n => n⟩
theorem Tryz.lays146 : Go.Proofs.Lays.n146 Tryz.prog Tryz.lays146_ren := {
  mixed := by kernel_rfl
  f138 := Tryz.func73.trans (congrArg some (by kernel_rfl))
  f143 := Tryz.func74.trans (congrArg some (by kernel_rfl))
  f146 := Tryz.func39.trans (congrArg some (by kernel_rfl))
  f195 := Tryz.func89.trans (congrArg some (by kernel_rfl))
  f197 := Tryz.func90.trans (congrArg some (by kernel_rfl))
  f217 := Tryz.func85.trans (congrArg some (by kernel_rfl))
  f218 := Tryz.func91.trans (congrArg some (by kernel_rfl))
  f219 := Tryz.func71.trans (congrArg some (by kernel_rfl))
  f221 := Tryz.func57.trans (congrArg some (by kernel_rfl))
  f224 := Tryz.func87.trans (congrArg some (by kernel_rfl))
  f225 := Tryz.func86.trans (congrArg some (by kernel_rfl))
  f260 := Tryz.func106.trans (congrArg some (by kernel_rfl))
  f266 := Tryz.func104.trans (congrArg some (by kernel_rfl))
  f267 := Tryz.func88.trans (congrArg some (by kernel_rfl))
  f268 := Tryz.func72.trans (congrArg some (by kernel_rfl))
  f314 := Tryz.func105.trans (congrArg some (by kernel_rfl))
  t0 := Tryz.underlying0
  a0 := Tryz.isAgg0
  z0 := Tryz.sizeOf0
  v0 := Tryz.zeroValue0
  t3 := Tryz.underlying3
  a3 := Tryz.isAgg3
  z3 := Tryz.sizeOf3
  v3 := Tryz.zeroValue3
  t4 := Tryz.underlying4
  a4 := Tryz.isAgg4
  z4 := Tryz.sizeOf4
  v4 := Tryz.zeroValue4
  t5 := Tryz.underlying5
  a5 := Tryz.isAgg5
  z5 := Tryz.sizeOf5
  v5 := Tryz.zeroValue5
  t9 := Tryz.underlying9
  a9 := Tryz.isAgg9
  z9 := Tryz.sizeOf9
  v9 := Tryz.zeroValue9
  t21 := Tryz.underlying21
  a21 := Tryz.isAgg21
  z21 := Tryz.sizeOf21
  v21 := Tryz.zeroValue21
  t31 := Tryz.underlying80
  a31 := Tryz.isAgg80
  z31 := Tryz.sizeOf80
  v31 := Tryz.zeroValue80
  t46 := Tryz.underlying98
  a46 := Tryz.isAgg98
  z46 := Tryz.sizeOf98
  v46 := Tryz.zeroValue98
  t51 := Tryz.underlying64
  a51 := Tryz.isAgg64
  z51 := Tryz.sizeOf64
  v51 := Tryz.zeroValue64
  t105 := Tryz.underlying129
  a105 := Tryz.isAgg129
  z105 := Tryz.sizeOf129
  v105 := Tryz.zeroValue129
  t119 := Tryz.underlying153
  a119 := Tryz.isAgg153
  z119 := Tryz.sizeOf153
  t138 := Tryz.underlying155
  a138 := Tryz.isAgg155
  z138 := Tryz.sizeOf155
  v138 := Tryz.zeroValue155
  t139 := Tryz.underlying156
  a139 := Tryz.isAgg156
  z139 := Tryz.sizeOf156
  v139 := Tryz.zeroValue156
  t146 := Tryz.underlying144
  a146 := Tryz.isAgg144
  z146 := Tryz.sizeOf144
  v146 := Tryz.zeroValue144
  g1 := by kernel_rfl
  g3 := by kernel_rfl
  g4 := by kernel_rfl }
open Go.RowKit Go.Lib in
theorem Tryz.strings_Split (s sep : ByteArray) (m : Int) (w : World) (hs : s.size < 4294967281) (hm : w.cell? ⟨1, 0, none⟩ = some (.int .i64 m)) (h1 : 1 ≤ sep.size) :
    Calls Tryz.prog 39 #[.string s, .string sep] w fun e w' =>
      e = .returned (.slice (some ⟨w.heap.size, 0, none⟩) (Lib.countB s sep + 1) (Lib.countB s sep + 1)) ∧ w' = w.alloc (.cells ((Lib.splitB sep 0 (Lib.countB s sep) s).map Value.string).toArray 9) := Any.strings_Split Tryz.lays146 (by kernel_rfl) s sep m w hs hm h1
def Tryz.lays112_ren : Go.Shelf.Ren := ⟨fun | 112 => 65 | n => n, fun | 28 => 44 | 3 => 3 | 4 => 4 | 0 => 0 | n => n, fun | n => n⟩
theorem Tryz.lays112 : Go.Proofs.Lays.n112 Tryz.prog Tryz.lays112_ren := {
  mixed := by kernel_rfl
  f112 := Tryz.func65.trans (congrArg some (by kernel_rfl))
  t0 := Tryz.underlying0
  a0 := Tryz.isAgg0
  z0 := Tryz.sizeOf0
  v0 := Tryz.zeroValue0
  t3 := Tryz.underlying3
  a3 := Tryz.isAgg3
  z3 := Tryz.sizeOf3
  v3 := Tryz.zeroValue3
  t4 := Tryz.underlying4
  a4 := Tryz.isAgg4
  z4 := Tryz.sizeOf4
  v4 := Tryz.zeroValue4
  t28 := Tryz.underlying44
  a28 := Tryz.isAgg44
  z28 := Tryz.sizeOf44
  v28 := Tryz.zeroValue44 }
open Go.RowKit Go.Lib Go.Sort in
theorem Tryz.slices_Reverse_int (blk off cap : Nat) (zs : List Int) (w : World) (hH : Holds (Value.int .i64) w blk off zs.toArray) (hsz : zs.length ≤ 9223372036854775807) :
    Calls Tryz.prog 65 #[.slice (some ⟨blk, off, none⟩) zs.length cap] w fun e w' => e = .returned (.tuple #[]) ∧ ∃ n, w' = putRow (Value.int .i64) (Sort.ahead w n) blk off zs.reverse.toArray := Any.slices_Reverse_int Tryz.lays112 blk off cap zs w hH hsz
open Go.RowKit Go.Lib Go.Sort in
theorem Tryz.slices_Reverse_int_empty (a : Option Addr) (cap : Nat) (w : World) :
    Calls Tryz.prog 65 #[.slice a 0 cap] w fun e w' => e = .returned (.tuple #[]) ∧ w' = w := Any.slices_Reverse_int_empty Tryz.lays112 a cap w

end Go.Proofs

/- What the library's variables hold; Itoa, Atoi, Split, Cut, TrimPrefix at what Print writes. -/
namespace Go.Proofs.YtamldoidalnloaaGreatDoor
open Go.RowKit
open Go.Lib
open Calm (bcell Blk)
structure ETab (w : World) : Prop where
  pow : Lib.TabIs Tryz.prog w "internal/strconv.uint64pow10" .u64 Lib.pow10Tab
  mx : 1 < w.heap.size ∧ ∃ m, w.cell? ⟨1, 0, none⟩ = some (.int .i64 m)
theorem gPowE : Tryz.prog.globalNamed "internal/strconv.uint64pow10" = some 2 := by kernel_rfl
theorem var_ltE {P : Program} {w : World} {n : String} {g : Nat} {cs : Array Value} (hg : P.globalNamed n = some g) (h : w.var? P n = some cs) : g < w.heap.size := by
  unfold World.var? at h
  rw [hg] at h
  simp only [Option.bind_some] at h
  rcases Nat.lt_or_ge g w.heap.size with h1 | h1
  · exact h1
  · rw [Array.getElem?_eq_none h1] at h
    simp at h
theorem ETab.below {w w' : World} (h : ETab w) (hb : Below w.heap.size w w') : ETab w' := by
  obtain ⟨h1, h6, m, h5⟩ := h
  exact ⟨var?_below hb gPowE (var_ltE gPowE h1) h1, Nat.lt_of_lt_of_le h6 hb.size, m, (hb.cell (p := ⟨1, 0, none⟩) h6).trans h5⟩
theorem below_growE (w : World) (n : Nat) (os : Array Obj) : Below w.heap.size w (Go.Sort.grow (w.drewN n) os) := by
  have h := below_drewN (Below.refl w.heap.size w) n
  refine ⟨h.os, h.tape, h.output, ?_, fun k hk => ?_⟩
  · show _ ≤ ((w.drewN n).heap ++ os).size
    have := h.size
    rw [Array.size_append]; omega
  · have e : (Go.Sort.grow (w.drewN n) os).heap[k]? = ((w.drewN n).heap ++ os)[k]? := rfl
    rw [e, Array.getElem?_append_left (Nat.lt_of_lt_of_le hk h.size)]
    exact h.block k hk
/-- a text as a value. -/
def sv (l : List UInt8) : Value := .string ⟨l.toArray⟩
theorem itoa_any (n : Int) (w : World) (hT : ETab w) (h0 : -9223372036854775808 ≤ n) (h1 : n ≤ 9223372036854775807) :
    Calls Tryz.prog 36 #[(.int .i64 n)] w fun r w' => r = .returned (sv (Lib.itoa n)) ∧ Below w.heap.size w w' :=
  (Tryz.strconv_Itoa n h0 h1 w hT.pow).mono fun _ _ ⟨h, k, os, e⟩ => ⟨h, e ▸ below_growE w k os⟩
/-- numbers of up to six digits. -/
theorem itoa_len {n : Int} (h : -999999 ≤ n ∧ n ≤ 999999) : (itoa n).length ≤ 10 := by
  unfold itoa
  split
  · have := dec_len (u := n.natAbs) (by omega)
    simp; omega
  · have := dec_len (u := n.toNat) (by omega)
    omega
theorem atoi_neg {u : Nat} (h : u < 1000000000) : atoiAll (45 :: decDigits u) = .ok (-(u : Int)) := by
  obtain ⟨⟨h2, h3, _⟩, hv, _⟩ := canon_dec u
  have hp : parseMag (decDigits u) = .ok u := by
    unfold parseMag
    rw [if_neg h2]
    have := parse_val _ 0 h3 (by show valL _ < _; rw [hv]; omega)
    rw [this]
    show _ = _
    congr 1
  unfold atoiAll
  simp only []
  rw [if_pos (by decide), hp]
  simp only []
  rw [if_neg (fun q => q.1 (by decide)), if_neg (by omega), if_pos (by decide)]
theorem atoi_itoa {n : Int} (h : -999999 ≤ n ∧ n ≤ 999999) : atoiAll (itoa n) = .ok n := by
  by_cases h0 : n < 0
  · unfold itoa
    rw [if_pos h0, atoi_neg (by omega)]
    congr 1
    omega
  · obtain ⟨k, rfl⟩ : ∃ k : Nat, n = k := ⟨n.toNat, by omega⟩
    rw [itoa_nat]
    exact atoi_num (numL_dec (dec_len (by omega)))
theorem atoi_any (n : Int) (h : -999999 ≤ n ∧ n ≤ 999999) (w : World) : Calls Tryz.prog 59 #[sv (itoa n)] w fun r w' => r = .returned (.tuple #[(.int .i64 n), .nilIface]) ∧ Below w.heap.size w w' := by
  have hl := itoa_len h
  exact (Tryz.strconv_Atoi_ok ⟨(itoa n).toArray⟩ (by show (itoa n).toArray.size ≤ _; rw [List.size_toArray]; omega) n (atoi_itoa h) w).mono fun _ _ ⟨h, e⟩ => ⟨h, e.elim (fun e => e ▸ Below.refl _ _) (fun ⟨t, e⟩ => e ▸ Lib.bytesWorld_below _ _ _)⟩
theorem trim_len {n : Int} (h : -999999 ≤ n ∧ n ≤ 999999) : (trimPrefix (itoa n) [45]).length ≤ 9 := by
  have key : ∀ l : List UInt8, (trimPrefix l [45]).length ≤ l.length := fun l => by
    unfold trimPrefix
    split
    · simp
    · exact Nat.le_refl _
  unfold itoa
  split
  · have := dec_len (u := n.natAbs) (by omega)
    have e : trimPrefix (45 :: decDigits n.natAbs) [45] = decDigits n.natAbs := by
      unfold trimPrefix
      rw [if_pos (by simp [hasPrefix])]
      rfl
    rw [e]
    exact this
  · exact Nat.le_trans (key _) (dec_len (by omega))
theorem trim_any (l : List UInt8) (w : World) : Calls Tryz.prog 60 #[sv l, .string ⟨#[45]⟩] w fun r w' => r = .returned (sv (trimPrefix l [45])) ∧ Below w.heap.size w w' :=
  (Tryz.strings_TrimPrefix ⟨l.toArray⟩ ⟨#[45]⟩ w).mono fun _ _ ⟨h, e⟩ => ⟨h, e ▸ Below.refl _ _⟩
/-- bytes that are no blank and no line's end. -/
def plainL (l : List UInt8) : Prop := ∀ b ∈ l, b ≠ 10 ∧ b ≠ 32
theorem plain_dec (u : Nat) : plainL (decDigits u) := fun b hb => by
  obtain ⟨⟨_, h3, _⟩, _⟩ := canon_dec u
  have := digB_iff.1 (List.all_eq_true.1 h3 b hb)
  exact ⟨fun e => by rw [e] at this; exact absurd this.1 (by decide), fun e => by rw [e] at this; exact absurd this.1 (by decide)⟩
theorem plain_itoa (n : Int) : plainL (itoa n) := fun b hb => by
  unfold itoa at hb
  split at hb
  · rcases List.mem_cons.1 hb with rfl | hb
    · decide
    · exact plain_dec _ b hb
  · exact plain_dec _ b hb
theorem itoa_ne (n : Int) : itoa n ≠ [] := by
  unfold itoa
  split
  · simp
  · exact (canon_dec _).1.1
theorem plain_name {nm : ByteArray} (h : NmGood nm) : plainL nm.data.toList := fun b hb => by
  obtain ⟨k, hk, rfl⟩ := List.mem_iff_getElem.1 hb
  have hk' : k < nm.size := by simpa using hk
  have := h.all k hk'
  have e : nm.data.toList[k] = nm[k] := by simp; rfl
  rw [e]
  have h48 : 48 ≤ nm[k].toNat := by unfold letN othN at this; omega
  exact ⟨fun q => by rw [q] at h48; exact absurd h48 (by decide), fun q => by rw [q] at h48; exact absurd h48 (by decide)⟩
theorem index_line (c : UInt8) : ∀ (a r : List UInt8), (∀ b ∈ a, b ≠ c) → index (a ++ c :: r) [c] = (a.length : Int)
  | [], r, _ => index_cons_eq c r
  | x :: a, r, h => by
    have ih := index_line c a r (fun b hb => h b (List.mem_cons_of_mem _ hb))
    rw [List.cons_append, index_cons_ne (h x (List.mem_cons_self ..)), ih]
    have : ((a.length : Int) == -1) = false := beq_eq_false_iff_ne.2 (by omega)
    rw [this, List.length_cons]
    simp
theorem cutL_app {c : UInt8} : ∀ (a r : List UInt8), (∀ b ∈ a, b ≠ c) → cutL c (a ++ c :: r) = a :: cutL c r
  | [], r, _ => by
    show cutL c (c :: r) = _
    rw [cutL, if_pos rfl]
  | x :: a, r, h => by
    have ih := cutL_app a r (fun b hb => h b (List.mem_cons_of_mem _ hb))
    show cutL c (x :: (a ++ c :: r)) = _
    rw [cutL, if_neg (h x (List.mem_cons_self ..)), ih]
theorem cutL_plain {c : UInt8} : ∀ (a : List UInt8), (∀ b ∈ a, b ≠ c) → cutL c a = [a]
  | [], _ => rfl
  | x :: a, h => by
    have ih := cutL_plain a (fun b hb => h b (List.mem_cons_of_mem _ hb))
    rw [cutL, if_neg (h x (List.mem_cons_self ..)), ih]
def wordsE (l : List (List UInt8)) : List Value := l.map sv
theorem cutL_countE : ∀ l : List UInt8, (cutL 32 l).length = l.count 32 + 1
  | [] => rfl
  | x :: r => by
    have ih := cutL_countE r
    unfold cutL
    by_cases h : x = 32
    · subst h; rw [if_pos rfl]; simp [ih]
    · rw [if_neg h, List.count_cons_of_ne h]
      cases hr : cutL 32 r with
      | nil => exact absurd hr (cutL_ne 32 r)
      | cons a t => rw [hr] at ih; simpa using ih
theorem words_splitE (s : ByteArray) : (splitB ⟨#[32]⟩ 0 (countB s ⟨#[32]⟩) s).map Value.string = wordsE (cutL 32 s.data.toList) ∧ countB s ⟨#[32]⟩ + 1 = (cutL 32 s.data.toList).length := by
  have h1 : (splitB ⟨#[32]⟩ 0 (countB s ⟨#[32]⟩) s).map (·.data.toList) = cutL 32 s.data.toList := by
    rw [splitB_data, ← split_cut]; rfl
  have h2 : (splitB ⟨#[32]⟩ 0 (countB s ⟨#[32]⟩) s).map Value.string = wordsE (cutL 32 s.data.toList) := by
    rw [← h1]; unfold wordsE; rw [List.map_map]; exact List.map_congr_left fun x _ => rfl
  refine ⟨h2, ?_⟩
  rw [cutL_countE]
  show count s.data.toList [32] + 1 = _
  rw [count_one]
theorem split_any (l : List UInt8) (w : World) (hT : ETab w) (hs : l.length ≤ 1000000) {W : List (List UInt8)} (hW : cutL 32 l = W) :
    Calls Tryz.prog 39 #[sv l, .string ⟨#[32]⟩] w fun r w' => r = .returned (.slice (some ⟨w.heap.size, 0, none⟩) W.length W.length) ∧ w' = w.alloc (.cells (wordsE W).toArray 9) := by
  obtain ⟨_, m, hm⟩ := hT.mx
  obtain ⟨h1, h2⟩ := words_splitE ⟨l.toArray⟩
  refine (Tryz.strings_Split ⟨l.toArray⟩ ⟨#[32]⟩ m w (by show l.toArray.size < _; rw [List.size_toArray]; omega) hm (by decide)).mono ?_
  rintro r w' ⟨rfl, rfl⟩
  rw [← hW]
  exact ⟨by rw [h2], by rw [h1]⟩
end Go.Proofs.YtamldoidalnloaaGreatDoor

/- signal: Correlate. -/
namespace Go.Proofs.YtamldoidalnloaaGreatDoor
open Go.RowKit Go.Sort
open Calm (bcell Blk)
theorem reverse_own (l : List Int) (B : Option Addr) (n d base : Nat) (w : World) (hown : w.ownsRow base 3 1 (.slice B n d) n (l.map (Value.int .i64))) (hn : n ≤ 5000) (hb : base ≤ w.heap.size) :
    Calls Tryz.prog 65 #[.slice B n d] w fun r w' => r = .returned (.tuple #[]) ∧ Cells w' B l.reverse ∧ Below base w w' := by
  have hl : l.length = n := by simpa using hown.1
  by_cases hv : B = none
  · subst hv
    rcases hown.2 with ⟨e0, e1⟩ | ⟨g, cap, cur, e0, _⟩
    · subst e1
      have h0 : l = [] := List.eq_nil_of_length_eq_zero hl
      subst h0
      refine (Tryz.slices_Reverse_int_empty none d w).mono ?_
      rintro r w' ⟨rfl, rfl⟩
      exact ⟨rfl, fun h => absurd h (by simp), Below.refl _ _⟩
    · cases e0
  · obtain ⟨g, cap, e, hbg, hg, hnc, hcm, hlen, hH⟩ := Lib.holds_of_ownsRow hown (fun q => by injection q with q1; exact hv q1)
    injection e with e1 _ e3
    subst e1 e3
    have hrev := Tryz.slices_Reverse_int g 0 d l w hH (by omega)
    rw [hlen] at hrev
    refine hrev.mono ?_
    rintro r w' ⟨rfl, q, rfl⟩
    have hy : l.reverse.length = n := by simpa using hlen
    have h1 := Lib.ownsRow_putRow (q := q) (ys := l.reverse) hown hy (Nat.le_refl n)
    rw [List.take_of_length_le (Nat.le_of_eq hy)] at h1
    obtain ⟨A9, c9, h9, -, hC9⟩ := own_ints (zs := l.reverse) h1 hy.symm
    injection h9 with h9
    subst h9
    exact ⟨rfl, hC9, Lib.below_putRow (Below.refl _ _) hbg⟩
set_option maxRecDepth 100000 in
set_option maxHeartbeats 4000000 in
theorem gConvolve1_ok (a b : List Int) (A B : Option Addr) (N M ca cb : Nat) (w : World) (hN : N = a.length) (hM : M = b.length) (hN5 : N ≤ 2000) (hM5 : M ≤ 2000) (ha : lvls a) (hb : lvls b) (hl : lvls (conv a.reverse b)) (hA : Cells w A a) (hB : Cells w B b) :
    Calls Tryz.prog 45 #[.slice A N ca, .slice B M cb, .bool true] w fun r w' => ∃ v, r = .returned (.tuple #[v, (.int .i64 0)]) ∧ FS w.heap.size (conv a.reverse b) v w' ∧ Below w.heap.size w w' := by
  have HSA : Hid (∀ W, Cells W A a → Calls Tryz.prog 62 #[.slice A N ca] W fun r w' => r = .returned (.int .i64 0) ∧ Below W.heap.size W w') := Lib.hid (fun W q => gSequence_ok a A ca N W hN q (by omega) ha)
  have HSB : Hid (∀ W, Cells W B b → Calls Tryz.prog 62 #[.slice B M cb] W fun r w' => r = .returned (.int .i64 0) ∧ Below W.heap.size W w') := Lib.hid (fun W q => gSequence_ok b B cb M W hM q (by omega) hb)
  obtain ⟨L, hL⟩ : ∃ L, L = lenC N M := ⟨_, rfl⟩
  have hNr : N = a.reverse.length := by rw [List.length_reverse]; exact hN
  have har : lvls a.reverse := fun x hx => ha x (List.mem_reverse.1 hx)
  have hcl : (conv a.reverse b).length = L := by rw [hL, (pvA_end a.reverse b N M hNr hM).2]
  have hL5 : L ≤ 4000 := by rw [hL]; unfold lenC; split <;> omega
  have HLE : Hid (∀ W, Calls Tryz.prog 63 #[.slice A N ca, .slice B M cb] W fun r w' => r = .returned (.int .i64 ((L : Int))) ∧ W = w') := Lib.hid (fun W => by rw [hL]; exact gLength_any A B N M ca cb W (by omega) (by omega))
  have HCL : Hid (∀ W, Cells W A a → Calls Tryz.prog 64 #[.slice A N ca] W fun r w' => (∃ B d, r = .returned (.slice B N d) ∧ w'.ownsRow W.heap.size 3 1 (.slice B N d) N (a.map (Value.int .i64))) ∧ Below W.heap.size W w') := Lib.hid (fun W q => clone_any a A N ca W hN q (by omega))
  have HCV : Hid (∀ W A ca, Cells W A a.reverse → Cells W B b → Calls Tryz.prog 66 #[.slice A N ca, .slice B M cb] W fun r w' => (∃ D d, r = .returned (.slice D L d) ∧ Cells w' D (conv a.reverse b) ∧ ∀ p, D = some p → W.heap.size ≤ p.block) ∧ Below W.heap.size W w') := Lib.hid (fun W A ca q1 q2 => by
    refine (gConvolved_any a.reverse b A B N M ca cb W hNr hM hN5 hM5 har hb q1 q2).mono ?_
    rintro r w' ⟨v, rfl, ⟨D, d, rfl, h1, h2⟩, h3⟩
    exact ⟨⟨D, d, by rw [hcl], h1, h2⟩, h3⟩)
  have HSC : Hid (∀ W D d, Cells W D (conv a.reverse b) → Calls Tryz.prog 62 #[.slice D L d] W fun r w' => r = .returned (.int .i64 0) ∧ Below W.heap.size W w') := Lib.hid (fun W D d q => gSequence_ok (conv a.reverse b) D d L W hcl.symm q (by omega) hl)
  have HF3 : Hid (∀ (W : World), Calls Tryz.prog 24 #[.slice (some ⟨W.heap.size, 0, none⟩) 3 3] (W.alloc (.cells #[(.int .i64 0), (.int .i64 0), (.int .i64 0)] 31)) fun r w' => r = .returned (.int .i64 0) ∧ (W.alloc (.cells #[(.int .i64 0), (.int .i64 0), (.int .i64 0)] 31)) = w') := Lib.hid (fun W => gFirst_cells [0, 0, 0] W (by simp))
  have hgt : decide ((4096 : Int) < (L : Int)) = false := decide_eq_false (by omega)
  have HA := Lib.hid hA
  have HB := Lib.hid hB
  have HCLN := Lib.hid hcl
  have HN5 := Lib.hid hN5
  clear hA hB ha hb hl hN hM hL hcl hNr har hN5
  go_enter Tryz.func45, Tryz.ntmps45
  go_wp2_with (go_at_call 62; refine (HSA.out w HA.out).mono ?_; rintro r w1 ⟨rfl, h1⟩; refine Hid.out ?_)
  unfold Hid
  have HB1 := Lib.hid h1
  clear h1
  go_wp2_with (go_at_call 62; refine (HSB.out w1 (HB.out.below HB1.out)).mono ?_; rintro r w2 ⟨rfl, h2⟩; refine Hid.out ?_)
  unfold Hid
  have HB2 := Lib.hid (HB1.out.trans (h2.mono HB1.out.size))
  clear h2
  go_wp2_with (first
    | (go_at_call 63; refine (HLE.out _).mono ?_; rintro r wx ⟨rfl, rfl⟩)
    | (go_at_call 27; refine (gWhen_any _ _ _).mono ?_; rintro r wx ⟨rfl, rfl⟩)
    | (go_at_call 24; refine (HF3.out _).mono ?_; rintro r wx ⟨rfl, rfl⟩)
    | (go_at_call 64; refine name_calls ?_; intro w3 e3; refine Hid.out ?_))
  unfold Hid
  have h3 : Below w2.heap.size w2 w3 := by rw [e3]; exact bel
  have HB3 := Lib.hid (HB2.out.trans (h3.mono HB2.out.size))
  clear e3 h3
  refine (HCL.out w3 (HA.out.below HB3.out)).mono ?_
  rintro r w4 ⟨⟨E, f, rfl, ho⟩, h4⟩
  have HB4 := Lib.hid (HB3.out.trans (h4.mono HB3.out.size))
  have HO := Lib.hid ho
  have HS34 := Lib.hid h4.size
  clear h4 ho
  go_wp2_with (go_at_call 65; refine (reverse_own a E N f w3.heap.size w4 HO.out (by have := HN5.out; omega) HS34.out).mono ?_; rintro r w5 ⟨rfl, hr, h5⟩; refine Hid.out ?_)
  unfold Hid
  have HB5 := Lib.hid (HB4.out.trans (h5.mono HB3.out.size))
  have HR := Lib.hid hr
  clear hr h5
  go_wp2_with (go_at_call 66; refine (HCV.out w5 E f HR.out (HB.out.below HB5.out)).mono ?_; rintro r w6 ⟨⟨D, d, rfl, hD, hf⟩, h6⟩; refine Hid.out ?_)
  unfold Hid
  have HB6 := Lib.hid (HB5.out.trans (h6.mono HB5.out.size))
  have HD := Lib.hid hD
  have HF : Hid (∀ p, D = some p → w.heap.size ≤ p.block) := Lib.hid (fun p hp => Nat.le_trans HB5.out.size (hf p hp))
  clear h6 hD hf
  go_wp2_with (go_at_call 62; refine (HSC.out w6 D d HD.out).mono ?_; rintro r w7 ⟨rfl, h7⟩; refine Hid.out ?_)
  unfold Hid
  have HB7 := Lib.hid (HB6.out.trans (h7.mono HB6.out.size))
  have HD7 := Lib.hid (HD.out.below h7)
  clear h7
  go_wp2
  refine bodyPost_ret (v := .tuple #[.slice D L d, (.int .i64 0)]) (by simp [results, Tryz.results45, go_sem]) rfl ⟨_, rfl, ⟨D, d, by rw [HCLN.out], HD7.out, HF.out⟩, HB7.out⟩
theorem gCorrelate_ok (a b : List Int) (A B : Option Addr) (N M ca cb : Nat) (w : World) (hN : N = a.length) (hM : M = b.length) (hN5 : N ≤ 2000) (hM5 : M ≤ 2000) (ha : lvls a) (hb : lvls b) (hl : lvls (conv a.reverse b)) (hA : Cells w A a) (hB : Cells w B b) :
    Calls Tryz.prog 19 #[.slice A N ca, .slice B M cb] w fun r w' => ∃ v, r = .returned (.tuple #[v, (.int .i64 0)]) ∧ FS w.heap.size (conv a.reverse b) v w' ∧ Below w.heap.size w w' := by
  have HC := Lib.hid (gConvolve1_ok a b A B N M ca cb w hN hM hN5 hM5 ha hb hl hA hB)
  clear ha hb hl hA hB hN hM
  go_enter Tryz.func19, Tryz.ntmps19
  go_wp2_with (go_at_call 45; refine HC.out.mono ?_; rintro r w1 ⟨v, rfl, h1⟩; refine Hid.out ?_)
  unfold Hid
  have H1 := Lib.hid h1
  clear h1
  go_wp2
  refine bodyPost_ret (v := .tuple #[v, (.int .i64 0)]) (by simp [results, Tryz.results19, go_sem]) rfl ⟨_, rfl, H1.out⟩
end Go.Proofs.YtamldoidalnloaaGreatDoor

/- strings.Builder: WriteString, String. -/
namespace Go.Proofs.YtamldoidalnloaaGreatDoor
open Go.RowKit
open Calm (bcell Blk)
theorem uBP : Tryz.prog.underlying 68 = some (.pointer 70) := by kernel_rfl
theorem uUP : Tryz.prog.underlying 111 = some .unsafePointer := by kernel_rfl
theorem szB : (Tryz.prog.info? 70).map (·.size) = some 2 := by kernel_rfl
theorem liesB : liesAt Tryz.prog Tryz.prog.depth 70 (2 / Tryz.prog.cellsOf 70) 0 70 1 = true := by kernel_rfl
theorem rNE (x : Value) (W : World) : (callFunc 69 #[x]).run Tryz.prog W = .ok (.value x) W := by
  rw [run_callFunc_extern Tryz.func69 (by kernel_rfl) (by kernel_rfl) (by kernel_rfl) (e := Extern.AbiNoEscape.same) (by kernel_rfl), Lib.run_noEscape]
  rfl
/-- a builder at B that holds these bytes. -/
abbrev BuildR (B b : Nat) (l : List UInt8) (w : World) : Prop := Lib.IsBuilder 70 5 B b (Lib.byteCells l) w
set_option maxHeartbeats 2000000 in
set_option maxRecDepth 100000 in
theorem copyCheck_any (B b : Nat) (bs : List Value) (w : World) (h : Lib.IsBuilder 70 5 B b bs w) :
    Calls Tryz.prog 54 #[.pointer (some ⟨b, 0, none⟩)] w fun r w' => r = .returned (.tuple #[]) ∧ Lib.BuilderAt 70 5 B b (.pointer (some ⟨b, 0, none⟩)) bs w' ∧ Below B w w' := by
  obtain ⟨j, hj, hjs⟩ := Option.map_eq_some_iff.1 szB
  rcases h with h | h
  · have h0 := h.cell0
    have hsh := h.shape
    have hfz := h.frozen0
    have HH := Lib.hid h
    have r1 := Lib.run_to_unsafe (P := Tryz.prog) (w := w) ⟨b, 0, none⟩ uBP uUP hj (by rw [hjs]; decide) hsh (Nat.zero_lt_succ 1)
    have r2 := Lib.run_from_unsafe (P := Tryz.prog) (w := w) ⟨b, 0, none⟩ uUP uBP hj hsh liesB
    have r3 := fun x W => rNE x W
    clear h hsh hj hjs
    go_enter Tryz.func54, Tryz.ntmps54
    go_wp2
    refine bodyPost_end (v := .tuple #[]) (by simp [results, go_sem]) rfl ⟨rfl, HH.out.used _, (Below.refl B w).setCell (p := ⟨b, 0, none⟩) HH.out.1 _⟩
  · have h0 := h.cell0
    have HH := Lib.hid h
    have r1 := Lib.run_neq_ptr_same (P := Tryz.prog) (w := w) ⟨b, 0, none⟩ uBP hj
    clear h hj hjs
    go_enter Tryz.func54, Tryz.ntmps54
    go_wp2
    refine bodyPost_end (v := .tuple #[]) (by simp [results, go_sem]) rfl ⟨rfl, HH.out, Below.refl B _⟩
set_option maxHeartbeats 2000000 in
set_option maxRecDepth 100000 in
theorem writeString_any (B b : Nat) (l m : List UInt8) (w : World) (h : BuildR B b l w) (hlen : l.length + m.length ≤ 1000000) (hBw : B ≤ w.heap.size) :
    Calls Tryz.prog 35 #[.pointer (some ⟨b, 0, none⟩), .string ⟨m.toArray⟩] w fun r w' => (∃ v, r = .returned v) ∧ BuildR B b (l ++ m) w' ∧ Below B w w' := by
  obtain ⟨i0, hi, hz0, hz1, hz2⟩ := info_parts eB.i
  obtain ⟨s, hs⟩ : ∃ s : ByteArray, s = ⟨m.toArray⟩ := ⟨_, rfl⟩
  have hsl : s.data.toList = m := by rw [hs]
  have hsz : s.size = m.length := by rw [hs]; show m.toArray.size = _; simp
  rw [← hs]
  have HC := Lib.hid (copyCheck_any B b _ w h)
  have hbl : (Lib.byteCells l).length = l.length := Lib.byteCells_length l
  have HSL := Lib.hid hsl
  have HSZ := Lib.hid hsz
  have hsi : (s.size : Int) ≤ 1000000 := by omega
  clear h hs hsl
  go_enter Tryz.func35, Tryz.ntmps35
  go_wp2_with (go_at_call 54; refine HC.out.mono ?_; rintro r w1 ⟨rfl, h1, h2⟩; refine Hid.out ?_)
  unfold Hid
  obtain ⟨hB, v, hbk, hown, hne⟩ := h1
  have HB1 := Lib.hid h2
  have hz := h2.size
  have c0 : w1.cell? ⟨b, 0, none⟩ = some (.pointer (some ⟨b, 0, none⟩)) := by rw [Lib.cell_of_heap hbk]; rfl
  have c1 : w1.cell? ⟨b, 1, none⟩ = some v := by rw [Lib.cell_of_heap hbk]; rfl
  have HBK := Lib.hid hbk
  have HOW := Lib.hid hown
  have HNE := Lib.hid hne
  clear h2 hbk hown hne
  go_wp2_with (at_builtin; refine Hid.out ?_)
  unfold Hid
  refine (Lib.wpList_append_own_string _ rfl _ _ 36 9 rfl B 5 i0 eB.u Tryz.underlying9 hi hz0 hz1 hz2 v _ _ rfl HOW.out s rfl ?c3 ?c4 ?c5 ?_)
  case c3 => have := HSZ.out; unfold maxLen; omega
  case c4 => have := HSZ.out; omega
  case c5 => omega
  intro v' w2 hown' hgrow _
  have hlt : b < w1.heap.size := (Array.getElem?_eq_some_iff.1 HBK.out).1
  have hb2 : w2.heap[b]? = some (.cells #[.pointer (some ⟨b, 0, none⟩), v] 70 (0, 0)) := by
    rw [hgrow.block b hlt (fun e => HNE.out e.symm)]
    exact HBK.out
  have d0 : w2.cell? ⟨b, 0, none⟩ = some (.pointer (some ⟨b, 0, none⟩)) := by rw [Lib.cell_of_heap hb2]; rfl
  have d1 : w2.cell? ⟨b, 1, none⟩ = some v := by rw [Lib.cell_of_heap hb2]; rfl
  have f1 : w2.frozen? ⟨b, 1, none⟩ = false := Lib.frozen_of_heap hb2 1
  have HPUT : Hid (BuildR B b (l ++ m) (w2.setCell ⟨b, 1, none⟩ v') ∧ Below B w (w2.setCell ⟨b, 1, none⟩ v')) := Lib.hid ⟨Or.inr (by
    have := Lib.BuilderAt.put (T := 70) (e := 5) hB hb2 (bs' := Lib.byteCells (l ++ m)) (by
      have e1 : Lib.strCells s = Lib.byteCells m := by rw [Lib.strCells_eq, HSL.out]
      rw [e1, ← Lib.byteCells_append] at hown'
      have e2 : (Lib.byteCells l).length + s.size = (Lib.byteCells (l ++ m)).length := by rw [Lib.byteCells_length, Lib.byteCells_length, List.length_append, HSZ.out]
      rwa [e2] at hown') (by decide)
    exact this), (HB1.out.grown hgrow (by omega) (fun k hk => (HOW.out.lt k hk).1)).setCell (p := ⟨b, 1, none⟩) hB _⟩
  obtain ⟨ao, n', cap, rfl⟩ : ∃ ao n' cap, v' = .slice ao n' cap := by
    rcases hown'.2 with ⟨hv, _⟩ | ⟨g, cap, cur, hv, _⟩
    · exact ⟨_, _, _, hv⟩
    · exact ⟨_, _, _, hv⟩
  clear hown' hgrow hb2
  go_wp2
  refine bodyPost_ret (v := .tuple #[(.int .i64 ((s.size : Int))), .nilIface]) (by simp [results, Tryz.results35, go_sem, HSZ.out]) rfl ⟨⟨_, rfl⟩, HPUT.out.1, HPUT.out.2⟩
theorem build_new (w : World) (b : Nat) (hb : b = w.heap.size) : BuildR b b [] (w.alloc (.cells #[.pointer none, .slice none 0 0] 70)) :=
  Or.inl ⟨Nat.le_refl _, .slice none 0 0, by subst hb; exact World.alloc_heap_new _ _, World.ownsRow_nil _ _ _ _, by simp [Value.ownBlock]⟩
end Go.Proofs.YtamldoidalnloaaGreatDoor

/- signal: Print of a record that holds. -/
namespace Go.Proofs.YtamldoidalnloaaGreatDoor
open Go.RowKit
open Go.Lib (itoa)
open Calm (bcell Blk)
/-- the head line, without its end. -/
def headT (nm : ByteArray) (rate : Int) : List UInt8 := [114, 101, 99, 111, 114, 100, 32] ++ nm.data.toList ++ [32] ++ itoa rate
/-- the samples' lines. -/
def bodyT (l : List Int) : List UInt8 := (l.map fun x => itoa x ++ [10]).flatten
def recT (nm : ByteArray) (rate : Int) (l : List Int) : List UInt8 := headT nm rate ++ [10] ++ bodyT l
theorem bodyT_cons (x : Int) (l : List Int) : bodyT (x :: l) = itoa x ++ [10] ++ bodyT l := by simp [bodyT]
theorem bodyT_snoc {l : List Int} {k : Nat} (hk : k < l.length) : bodyT (l.take (k + 1)) = bodyT (l.take k) ++ (itoa (l.getD k 0) ++ [10]) := by
  unfold bodyT
  rw [List.take_succ_eq_append_getElem hk, List.map_append, List.flatten_append, List.getD_eq_getElem?_getD, List.getElem?_eq_getElem hk]
  simp
theorem BuildR.below {B b : Nat} {l : List UInt8} {w w' : World} (h : BuildR B b l w) (hb : Below w.heap.size w w') : BuildR B b l w' := by
  have key : ∀ p, Lib.BuilderAt 70 5 B b p (Lib.byteCells l) w → Lib.BuilderAt 70 5 B b p (Lib.byteCells l) w' := fun p ⟨h1, v, h2, h3, h4⟩ => ⟨h1, v, (hb.block b (Array.getElem?_eq_some_iff.1 h2).1).trans h2, ownsRow_below h3 hb, h4⟩
  exact h.elim (fun q => .inl (key _ q)) (fun q => .inr (key _ q))
def numR (l : List Int) : Prop := ∀ x ∈ l, -999999 ≤ x ∧ x ≤ 999999
theorem numR.get {l : List Int} (h : numR l) (k : Nat) : -999999 ≤ l.getD k 0 ∧ l.getD k 0 ≤ 999999 := by
  rw [List.getD_eq_getElem?_getD]
  rcases Nat.lt_or_ge k l.length with hk | hk
  · rw [List.getElem?_eq_getElem hk]
    exact h _ (List.getElem_mem hk)
  · rw [List.getElem?_eq_none hk]
    simp
theorem bodyT_len : ∀ (l : List Int), numR l → (bodyT l).length ≤ 11 * l.length
  | [], _ => by simp [bodyT]
  | x :: l, h => by
    have ih := bodyT_len l (fun y hy => h y (List.mem_cons_of_mem _ hy))
    have := itoa_len (h x (List.mem_cons_self ..))
    rw [bodyT_cons]
    simp only [List.length_append, List.length_cons, List.length_nil]
    omega
set_option maxRecDepth 100000 in
set_option maxHeartbeats 4000000 in
theorem print_ok (nm : ByteArray) (rate : Int) (l : List Int) (A : Option Addr) (c N : Nat) (w : World) (hT : ETab w) (hnm : NmOk nm) (hr : 1 ≤ rate ∧ rate ≤ 192000) (hN : N = l.length) (hN5 : N ≤ 4096) (hl : flL l) (hq : numR l) (hC : EC encF w A l) :
    Calls Tryz.prog 13 #[.agg #[.string nm, (.int .i64 rate), .slice A N c]] w fun r w' => r = .returned (.tuple #[sv (recT nm rate l), (.int .i64 0)]) ∧ Below w.heap.size w w' := by
  have HSQ : Hid (∀ W, EC encF W A l → Calls Tryz.prog 15 #[.agg #[.string nm, (.int .i64 rate), .slice A N c]] W fun r w' => (∃ B d, r = .returned (.tuple #[.slice B N d, (.int .i64 0)]) ∧ Cells w' B l ∧ ∀ p, B = some p → W.heap.size ≤ p.block) ∧ Below W.heap.size W w') := Lib.hid (fun W q => sequence_ok nm rate l A c N W hnm hr hN hN5 hl q)
  have HIT : Hid (∀ n, -999999 ≤ n ∧ n ≤ 999999 → ∀ W, Below w.heap.size w W → Calls Tryz.prog 36 #[(.int .i64 n)] W fun r w' => r = .returned (sv (itoa n)) ∧ Below W.heap.size W w') := Lib.hid (fun n hn W hb => itoa_any n W (hT.below hb) (by omega) (by omega))
  have hnl : nm.data.toList.length ≤ 24 := by have := hnm.len; rw [Array.length_toList]; exact this
  have hrl := itoa_len (n := rate) (by omega)
  have enm : (.string ⟨nm.data.toList.toArray⟩ : Value) = .string nm := by simp
  have hhl : (headT nm rate).length ≤ 50 := by unfold headT; simp only [List.length_append, List.length_cons, List.length_nil]; omega
  have hns : nm.size ≤ 24 := hnm.len
  obtain ⟨TS, hTS⟩ : ∃ TS : ByteArray, TS = ⟨(itoa rate).toArray⟩ := ⟨_, rfl⟩
  obtain ⟨S1, hS1⟩ : ∃ S1 : ByteArray, S1 = ⟨#[114, 101, 99, 111, 114, 100, 32]⟩ ++ nm := ⟨_, rfl⟩
  obtain ⟨S2, hS2⟩ : ∃ S2 : ByteArray, S2 = S1 ++ ⟨#[32]⟩ := ⟨_, rfl⟩
  obtain ⟨S3, hS3⟩ : ∃ S3 : ByteArray, S3 = S2 ++ TS := ⟨_, rfl⟩
  obtain ⟨S4, hS4⟩ : ∃ S4 : ByteArray, S4 = S3 ++ ⟨#[10]⟩ := ⟨_, rfl⟩
  have z0 : TS.size ≤ 10 := by rw [hTS]; show (itoa rate).toArray.size ≤ 10; simpa using hrl
  have z1 : S1.size = 7 + nm.size := by rw [hS1, ByteArray.size_append]; rfl
  have z2 : S2.size = S1.size + 1 := by rw [hS2, ByteArray.size_append]; rfl
  have z3 : S3.size = S2.size + TS.size := by rw [hS3, ByteArray.size_append]
  have z4 : S4.size = S3.size + 1 := by rw [hS4, ByteArray.size_append]; rfl
  have n1 : ¬ 9223372036854775807 < 7 + nm.size := by omega
  have n2 : ¬ 9223372036854775807 < S1.size + 1 := by omega
  have n3 : ¬ 9223372036854775807 < S2.size + TS.size := by omega
  have n4 : ¬ 9223372036854775807 < S3.size + 1 := by omega
  have HS4L : Hid (S4.data.toList = headT nm rate ++ [10] ∧ S4.size ≤ 51) := Lib.hid ⟨by rw [hS4, hS3, hS2, hS1, hTS]; simp [headT], by omega⟩
  have c1 := hS1.symm
  have c2 := hS2.symm
  have c3 := hS3.symm
  have c4 := hS4.symm
  have HHL := Lib.hid hhl
  have HC := Lib.hid hC
  have HN := Lib.hid hN
  have HQ := Lib.hid hq
  have HR := Lib.hid hr
  have HTI : Hid (∀ W, Below w.heap.size w W → Calls Tryz.prog 36 #[(.int .i64 rate)] W fun r w' => r = .returned (.string TS) ∧ Below W.heap.size W w') := Lib.hid (by rw [hTS]; exact HIT.out rate (by omega))
  clear hnm hr hN hl hq hC hT hnl hrl enm hhl hS1 hS2 hS3 hS4 hTS z0 z1 z2 z3 z4 hns
  go_enter Tryz.func13, Tryz.ntmps13
  go_wp2_with (go_at_call 15; refine name_calls ?_; intro w1 e1; refine Hid.out ?_)
  unfold Hid
  have K0 : Blk w1 w.heap.size #[.string nm, (.int .i64 rate), .slice A N c] := by rw [e1]; (repeat (first | ((with_reducible refine Blk.at_ ?_); focus (first | rfl | (simp; done) | (simp; omega))) | (with_reducible refine Blk.alloc ?_ _) | (with_reducible refine Blk.below ?_ (by with_reducible assumption)) | (with_reducible refine Blk.drew ?_)))
  have HB1 := Lib.hid (show Below w.heap.size w w1 by rw [e1]; exact bel)
  clear e1
  refine (HSQ.out w1 (HC.out.below HB1.out)).mono ?_
  rintro r w2 ⟨⟨B, d, rfl, hb, hf⟩, h2⟩
  have HB2 := Lib.hid (HB1.out.trans (h2.mono HB1.out.size))
  have HK0 := Lib.hid (K0.below h2)
  have HCB := Lib.hid hb
  have hz02 : w.heap.size < w2.heap.size := HK0.out.lt
  clear h2 K0 hb hf
  go_wp2
  refine name_world ?_
  intro w3 e3
  obtain ⟨b, hbb⟩ : ∃ b, b = w2.heap.size := ⟨_, rfl⟩
  have KB : BuildR b b [] w3 := by rw [e3]; exact build_new w2 b hbb
  have h3 : Below w2.heap.size w2 w3 := by rw [e3]; exact bel
  have hsz3 : b < w3.heap.size := by rw [e3, hbb]; simp
  rw [← hbb] at h3 hz02 ⊢
  have HB3 := Lib.hid h3
  have HBW3 := Lib.hid (HB2.out.trans (h3.mono (by omega)))
  have HKB := Lib.hid KB
  have HK3 := Lib.hid (HK0.out.of_block (h3.block _ hz02))
  have HBB := Lib.hid hbb
  clear e3 KB h3 hbb
  obtain ⟨a0, a1, a2, al, af⟩ := HK3.out.o3
  refine Rel.region3 7 (by kernel_rfl) (by kernel_rfl) (by kernel_rfl) ?_
  simp only [List.take_succ_cons, List.take_zero, List.drop_succ_cons, List.drop_zero, List.filterMap_cons, List.filterMap_nil]
  iterate 6 (apply Rel.op3; (focus (first | exact Rel.gno rfl | exact Rel.gyes _ true _ rfl rfl rfl | exact Rel.gyes _ false _ rfl rfl rfl)); (focus (intro a W hb hd hbase; obtain ⟨hc, hf⟩ := bcell hb; clear hb hf; simp [Rel.deps, Rel.dep1, Rel.ons, Region.binds, Act.eval] at hd; simp only [Act.eval, List.mem_cons, List.not_mem_nil, not_or, and_imp, or_false, Array.getD_eq_getD_getElem?] at hbase; go_simp; (try go_bits); (try rfl); done)); (try simp only [List.nil_append, List.cons_append]))
  (apply Rel.call3; (focus (first | exact Rel.gno rfl | exact Rel.gyes _ true _ rfl rfl rfl | exact Rel.gyes _ false _ rfl rfl rfl)); (focus (intro a W hb hd hbase; obtain ⟨hc, hf⟩ := bcell hb; clear hb hf; simp [Rel.deps, Rel.dep1, Rel.ons, Region.binds, Act.eval] at hd; simp only [Act.eval, List.mem_cons, List.not_mem_nil, not_or, and_imp, or_false, Array.getD_eq_getD_getElem?] at hbase; go_simp; refine ⟨?_, ?_⟩; rfl; rfl)); (focus (intro W hb; go_at_call 36; exact HTI.out W (HBW3.out.trans (hb.mono HBW3.out.size)))); (try simp only [List.nil_append, List.cons_append]))
  refine Rel.done3 ?_
  intro x w4 hb4 hx
  simp only [Rel.facts, Nat.zero_add, Nat.reduceAdd] at hx
  obtain ⟨e0, e1, e2, e3, e4, e5, e6, _⟩ := hx
  simp only [Rel.fill, Nat.zero_add, Nat.reduceAdd, e0, e1, e2, e3, e4, e5, e6]
  simp only [Act.put, List.setIfInBounds_toArray, List.set_cons_zero, List.set_cons_succ]
  clear e0 e1 e2 e3 e4 e5 e6
  have HB4 := Lib.hid (HB3.out.trans (hb4.mono (by omega)))
  have HKB4 := Lib.hid (HKB.out.below hb4)
  have HBW4 := Lib.hid (HBW3.out.trans (hb4.mono HBW3.out.size))
  have hsz4 : b < w4.heap.size := Nat.lt_of_lt_of_le hsz3 hb4.size
  have HWS : Hid (∀ l W (m : ByteArray), BuildR b b l W → l.length + m.size ≤ 1000000 → b ≤ W.heap.size → Calls Tryz.prog 35 #[.pointer (some ⟨b, 0, none⟩), .string m] W fun r w' => (∃ v, r = .returned v) ∧ BuildR b b (l ++ m.data.toList) w' ∧ Below b W w') := Lib.hid (fun l W m q1 q2 q3 => by
    have := writeString_any b b l m.data.toList W q1 (by rw [Array.length_toList]; exact q2) q3
    have e : (⟨m.data.toList.toArray⟩ : ByteArray) = m := by simp
    rwa [e] at this)
  clear hb4 a0 a1 a2 al af n1 n2 c1 c2
  go_wp2_with (go_at_call 35; refine (HWS.out [] w4 S4 HKB4.out (by have := HS4L.out.2; simp; omega) (by omega)).mono ?_; rintro r w5 ⟨⟨v5, rfl⟩, hw5, h5⟩; refine Hid.out ?_)
  unfold Hid
  rw [HS4L.out.1, List.nil_append] at hw5
  have HW5 := Lib.hid hw5
  have HB5 := Lib.hid (HB4.out.trans (h5.mono (by omega)))
  have hsz5 : b ≤ w5.heap.size := Nat.le_trans (Nat.le_of_lt hsz4) h5.size
  clear hw5 h5 n3 n4 c3 c4
  go_wp2
  go_loopw [29] (fun i wr => ∃ k : Nat, k ≤ N ∧ i = (.int .i64 ((k : Int))) ∧ BuildR b b (headT nm rate ++ [10] ++ bodyT (l.take k)) wr ∧ Below b w2 wr) (fun i _ => N - (intOf i).toNat)
  case atStart => exact ⟨0, Nat.zero_le _, rfl, by simpa [bodyT] using HW5.out, HB5.out⟩
  case round =>
    obtain ⟨k, hk, rfl, hbk, hb⟩ := hrel
    have HBK := Lib.hid hbk
    have HBR := Lib.hid hb
    have hszr : b ≤ wr.heap.size := by have := hb.size; have := HBB.out; omega
    have HBW : Hid (Below w.heap.size w wr) := Lib.hid (HB2.out.trans (hb.mono (by omega)))
    have HLK : Hid ((headT nm rate ++ [10] ++ bodyT (l.take k)).length ≤ 51 + 11 * N) := Lib.hid (by
      have h1 := bodyT_len (l.take k) (fun x hx => HQ.out x (List.mem_of_mem_take hx))
      have h2 := HHL.out
      rw [List.length_take] at h1
      simp only [List.length_append, List.length_cons, List.length_nil]
      have := HN.out
      omega)
    clear hbk hb
    by_cases hlt : k < N
    · obtain ⟨b6, o6, rfl, hl6, hc6⟩ := HCB.out (by rw [← HN.out]; omega)
      have x1 := ((HBR.out.cell (p := ⟨b6, o6 + k, none⟩) (by rw [HBB.out]; exact hl6)).trans (hc6 k (by rw [← HN.out]; exact hlt)))
      have hxr := HQ.out.get k
      have HSN : Hid (bodyT (l.take (k + 1)) = bodyT (l.take k) ++ (itoa (l.getD k 0) ++ [10])) := Lib.hid (bodyT_snoc (by rw [← HN.out]; exact hlt))
      have HIX : Hid (∀ W, Below w.heap.size w W → Calls Tryz.prog 36 #[(.int .i64 (l.getD k 0))] W fun r w' => r = .returned (sv (itoa (l.getD k 0))) ∧ Below W.heap.size W w') := Lib.hid (fun W q => HIT.out _ hxr W q)
      have hil := itoa_len hxr
      obtain ⟨TX, hTX⟩ : ∃ TX : ByteArray, TX = ⟨(itoa (l.getD k 0)).toArray⟩ := ⟨_, rfl⟩
      obtain ⟨S5, hS5⟩ : ∃ S5 : ByteArray, S5 = TX ++ ⟨#[10]⟩ := ⟨_, rfl⟩
      have z0 : TX.size ≤ 10 := by rw [hTX]; show (itoa _).toArray.size ≤ 10; simpa using hil
      have n5 : ¬ 9223372036854775807 < TX.size + 1 := by omega
      have HS5 : Hid (S5.data.toList = itoa (l.getD k 0) ++ [10] ∧ S5.size ≤ 11) := Lib.hid ⟨by rw [hS5, hTX]; simp, by rw [hS5, ByteArray.size_append]; have e1 : (⟨#[10]⟩ : ByteArray).size = 1 := rfl; omega⟩
      have HIY : Hid (∀ W, Below w.heap.size w W → Calls Tryz.prog 36 #[(.int .i64 (l.getD k 0))] W fun r w' => r = .returned (.string TX) ∧ Below W.heap.size W w') := Lib.hid (by rw [hTX]; exact HIX.out)
      have c5 := hS5.symm
      obtain ⟨x, hx⟩ : ∃ x, x = l.getD k 0 := ⟨_, rfl⟩
      rw [← hx] at x1 HSN HIY HS5 hxr
      clear hc6 hx hS5 hTX hil hl6 HIX z0
      go_wp2_with (go_at_call 36; refine (HIY.out wr HBW.out).mono ?_; rintro r w6 ⟨rfl, h6⟩; refine Hid.out ?_)
      unfold Hid
      have HB6 := Lib.hid (HBR.out.trans (h6.mono (by omega)))
      have HBK6 := Lib.hid (HBK.out.below h6)
      have hsz6 : b ≤ w6.heap.size := Nat.le_trans hszr h6.size
      clear h6 x1
      go_wp2_with (go_at_call 35; refine (HWS.out _ w6 S5 HBK6.out (by have := HS5.out.2; have := HLK.out; omega) (by omega)).mono ?_; rintro r w7 ⟨⟨v7, rfl⟩, hw7, h7⟩; refine Hid.out ?_)
      unfold Hid
      rw [HS5.out.1, List.append_assoc, ← HSN.out] at hw7
      have HW7 := Lib.hid hw7
      have HB7 := Lib.hid (HB6.out.trans (h7.mono (by omega)))
      clear hw7 h7 c5 n5
      go_wp2
      go_roundw
      case rel => exact ⟨k + 1, by omega, by go_num, HW7.out, HB7.out⟩
      case measure => simp [intOf]; omega
    · obtain rfl : k = N := by omega
      have HALL : Hid (l.take k = l) := Lib.hid (by rw [HN.out]; exact List.take_length)
      have HST : Hid (Calls Tryz.prog 37 #[.pointer (some ⟨b, 0, none⟩)] wr fun e w' => e = .returned (sv (recT nm rate l)) ∧ Below b wr w') := Lib.hid (by
        have := Tryz.Builder_String_any b b _ wr HBK.out hszr
        rw [HALL.out] at this
        exact this)
      clear hk hlt
      go_wp2_with (go_at_call 37; refine HST.out.mono ?_; rintro r w6 ⟨rfl, h6⟩; refine Hid.out ?_)
      unfold Hid
      have HB6 := Lib.hid (HBW.out.trans (h6.mono (by omega)))
      clear h6
      go_wp2
      refine bodyPost_ret (v := .tuple #[sv (recT nm rate l), (.int .i64 0)]) (by simp [results, Tryz.results13, go_sem]) rfl ⟨rfl, HB6.out⟩
end Go.Proofs.YtamldoidalnloaaGreatDoor
