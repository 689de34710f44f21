/-
  The library's contracts at this translation: each function's number, and that its body is the one that the contract was proved of; no condition. (Written by the kit's lay-shelf and lay-plain.)
-/
import Derived.Shelf.Strings.Builder1
import Derived.Shelf.Strings.Builder2
import Derived.Shelf.Strings.Trim
import Derived.Shelf.Small.Utf8
import Derived.Shelf.Small.Strs
import Derived.Shelf.Strings.BuilderF
import Derived.Shelf.Strconv.Atoi
import Derived.Shelf.Strconv.Itoa0
import Derived.Shelf.Strconv.AtoiErrFast
import Derived.Shelf.Strconv.ParseIntEmpty
import Derived.Shelf.Strconv.AtoiFail
import Derived.Shelf.LaysM
import Derived.Shelf.Strconv.Clone
import Derived.Shelf.Strconv.SyntaxError
import Derived.Shelf.LaysC
import Derived.Shelf.Strconv.ToError
import Derived.Shelf.Strconv.Lower
import Derived.Shelf.Strconv.ParseUint10
import Derived.Shelf.Strconv.ParseUint10Empty
import Derived.Shelf.Strconv.ParseUint10Any
import Derived.Shelf.Strconv.ParseInt10
import Derived.Shelf.Strconv.AtoiLong
import Derived.Shelf.Strconv.AtoiInnerAll
import Derived.Shelf.Strconv.RangeError
import Derived.Shelf.Strconv.ToErrorRange
import Derived.Shelf.Strconv.AtoiAll
import Derived.Shelf.Strconv.ErrVarAll
import Derived.Shelf.Strings.Search1
import Derived.Shelf.Strings.Search2
import Derived.Shelf.Strings.Search3
import Derived.Shelf.Strings.Count
import Derived.Shelf.Strings.Shaped
import Derived.Shelf.Strings.Prefix
import Derived.Shelf.Strings.Split
import Derived.Shelf.Strings.SplitShaped
import Derived.Shelf.Strings.Runes
import Derived.Shelf.Strings.AsciiSet
import Derived.Shelf.Bits.Mul64
import Derived.Shelf.Strings.Repeat
import Derived.Shelf.Unicode.DecodeSlow
import Derived.Shelf.Unicode.DecodeAny
import Derived.Shelf.Unicode.DecodeLast
import Derived.Test.YtkcjlagaaekhjaaDoorProg
namespace Go.Proofs
open Go.Shelf
def Tryd.lays119_ren : Go.Shelf.Ren := ⟨fun | 119 => 71 | n => n, fun | 21 => 21 | 4 => 4 | n => n, fun | n => n⟩
theorem Tryd.lays119 : Go.Proofs.Lays.n119 Tryd.prog Tryd.lays119_ren := {
  mixed := by kernel_rfl
  f119 := Tryd.func71.trans (congrArg some (by kernel_rfl))
  t4 := Tryd.underlying4
  a4 := Tryd.isAgg4
  z4 := Tryd.sizeOf4
  v4 := Tryd.zeroValue4
  t21 := Tryd.underlying21
  a21 := Tryd.isAgg21
  z21 := Tryd.sizeOf21
  v21 := Tryd.zeroValue21 }
def Tryd.lays137_ren : Go.Shelf.Ren := ⟨fun | 137 => 25 | 217 => 45 | 266 => 62 | n => n, fun | 9 => 9 | 5 => 5 | 3 => 3 | n => n, fun | n => n⟩
theorem Tryd.lays137 : Go.Proofs.Lays.n137 Tryd.prog Tryd.lays137_ren := {
  mixed := by kernel_rfl
  f137 := Tryd.func25.trans (congrArg some (by kernel_rfl))
  f217 := Tryd.func45.trans (congrArg some (by kernel_rfl))
  f266 := Tryd.func62.trans (congrArg some (by kernel_rfl))
  t3 := Tryd.underlying3
  a3 := Tryd.isAgg3
  z3 := Tryd.sizeOf3
  v3 := Tryd.zeroValue3
  t5 := Tryd.underlying5
  a5 := Tryd.isAgg5
  z5 := Tryd.sizeOf5
  v5 := Tryd.zeroValue5
  t9 := Tryd.underlying9
  a9 := Tryd.isAgg9
  z9 := Tryd.sizeOf9
  v9 := Tryd.zeroValue9 }
def Tryd.laysC172_ren : Go.Shelf.Ren := ⟨fun | 172 => 35 | 244 => 54 | 245 => 55 | 247 => 66 | 279 => 67 | 280 => 68 | 281 => 69 | 282 => 70 | 287 => 79 | 316 => 80 | 171 => 82 | 205 => 81 | 321 => 84 | 322 => 85 | 243 => 86 | 246 => 88 | 283 => 89 | 284 => 90 | 285 => 91 | 286 => 92 | 129 => 94 | 317 => 93 | 318 => 95 | 319 => 96 | 320 => 97 | 337 => 98 | 338 => 99 | n => n, fun | 9 => 9 | 3 => 3 | 75 => 55 | 76 => 56 | 4 => 4 | 5 => 5 | 167 => 91 | 37 => 32 | 0 => 0 | 85 => 92 | 2 => 2 | 168 => 94 | 53 => 70 | 175 => 98 | 46 => 46 | 210 => 102 | 127 => 73 | 145 => 112 | 143 => 110 | 21 => 21 | 171 => 115 | 173 => 118 | 212 => 121 | 51 => 67 | 20 => 20 | 213 => 122 | 232 => 126 | 233 => 127 | 80 => 59 | n => n, fun | 15 => 1 | 16 => 2 | 17 => 5 | 18 => 6 | 19 => 7 | n => n⟩
theorem Tryd.laysC172 : Go.Proofs.LaysC.n172 Tryd.prog Tryd.laysC172_ren := {
  mixed := by kernel_rfl
  f129 := Tryd.func94.trans (congrArg some (by kernel_rfl))
  f171 := Tryd.func82.trans (congrArg some (by kernel_rfl))
  f172 := Tryd.func35.trans (congrArg some (by kernel_rfl))
  f205 := Tryd.func81.trans (congrArg some (by kernel_rfl))
  f243 := Tryd.func86.trans (congrArg some (by kernel_rfl))
  f244 := Tryd.func54.trans (congrArg some (by kernel_rfl))
  f245 := Tryd.func55.trans (congrArg some (by kernel_rfl))
  f246 := Tryd.func88.trans (congrArg some (by kernel_rfl))
  f247 := Tryd.func66.trans (congrArg some (by kernel_rfl))
  f279 := Tryd.func67.trans (congrArg some (by kernel_rfl))
  f280 := Tryd.func68.trans (congrArg some (by kernel_rfl))
  f281 := Tryd.func69.trans (congrArg some (by kernel_rfl))
  f282 := Tryd.func70.trans (congrArg some (by kernel_rfl))
  f283 := Tryd.func89.trans (congrArg some (by kernel_rfl))
  f284 := Tryd.func90.trans (congrArg some (by kernel_rfl))
  f285 := Tryd.func91.trans (congrArg some (by kernel_rfl))
  f286 := Tryd.func92.trans (congrArg some (by kernel_rfl))
  f287 := Tryd.func79.trans (congrArg some (by kernel_rfl))
  f316 := Tryd.func80.trans (congrArg some (by kernel_rfl))
  f317 := Tryd.func93.trans (congrArg some (by kernel_rfl))
  f318 := Tryd.func95.trans (congrArg some (by kernel_rfl))
  f319 := Tryd.func96.trans (congrArg some (by kernel_rfl))
  f320 := Tryd.func97.trans (congrArg some (by kernel_rfl))
  f321 := Tryd.func84.trans (congrArg some (by kernel_rfl))
  f322 := Tryd.func85.trans (congrArg some (by kernel_rfl))
  f337 := Tryd.func98.trans (congrArg some (by kernel_rfl))
  f338 := Tryd.func99.trans (congrArg some (by kernel_rfl))
  t0 := Tryd.underlying0
  a0 := Tryd.isAgg0
  z0 := Tryd.sizeOf0
  v0 := Tryd.zeroValue0
  t2 := Tryd.underlying2
  a2 := Tryd.isAgg2
  z2 := Tryd.sizeOf2
  v2 := Tryd.zeroValue2
  t3 := Tryd.underlying3
  a3 := Tryd.isAgg3
  z3 := Tryd.sizeOf3
  v3 := Tryd.zeroValue3
  t4 := Tryd.underlying4
  a4 := Tryd.isAgg4
  z4 := Tryd.sizeOf4
  v4 := Tryd.zeroValue4
  t5 := Tryd.underlying5
  a5 := Tryd.isAgg5
  z5 := Tryd.sizeOf5
  v5 := Tryd.zeroValue5
  t9 := Tryd.underlying9
  a9 := Tryd.isAgg9
  z9 := Tryd.sizeOf9
  v9 := Tryd.zeroValue9
  t20 := Tryd.underlying20
  a20 := Tryd.isAgg20
  z20 := Tryd.sizeOf20
  v20 := Tryd.zeroValue20
  t21 := Tryd.underlying21
  a21 := Tryd.isAgg21
  z21 := Tryd.sizeOf21
  v21 := Tryd.zeroValue21
  t37 := Tryd.underlying32
  a37 := Tryd.isAgg32
  z37 := Tryd.sizeOf32
  v37 := Tryd.zeroValue32
  t46 := Tryd.underlying46
  a46 := Tryd.isAgg46
  z46 := Tryd.sizeOf46
  v46 := Tryd.zeroValue46
  t51 := Tryd.underlying67
  a51 := Tryd.isAgg67
  z51 := Tryd.sizeOf67
  v51 := Tryd.zeroValue67
  t53 := Tryd.underlying70
  a53 := Tryd.isAgg70
  z53 := Tryd.sizeOf70
  v53 := Tryd.zeroValue70
  t75 := Tryd.underlying55
  a75 := Tryd.isAgg55
  z75 := Tryd.sizeOf55
  v75 := Tryd.zeroValue55
  t76 := Tryd.underlying56
  a76 := Tryd.isAgg56
  z76 := Tryd.sizeOf56
  v76 := Tryd.zeroValue56
  t85 := Tryd.underlying92
  a85 := Tryd.isAgg92
  z85 := Tryd.sizeOf92
  v85 := Tryd.zeroValue92
  t127 := Tryd.underlying73
  a127 := Tryd.isAgg73
  z127 := Tryd.sizeOf73
  v127 := Tryd.zeroValue73
  t143 := Tryd.underlying110
  a143 := Tryd.isAgg110
  z143 := Tryd.sizeOf110
  v143 := Tryd.zeroValue110
  t145 := Tryd.underlying112
  a145 := Tryd.isAgg112
  z145 := Tryd.sizeOf112
  v145 := Tryd.zeroValue112
  t167 := Tryd.underlying91
  a167 := Tryd.isAgg91
  z167 := Tryd.sizeOf91
  v167 := Tryd.zeroValue91
  t168 := Tryd.underlying94
  a168 := Tryd.isAgg94
  z168 := Tryd.sizeOf94
  v168 := Tryd.zeroValue94
  t171 := Tryd.underlying115
  a171 := Tryd.isAgg115
  z171 := Tryd.sizeOf115
  v171 := Tryd.zeroValue115
  t173 := Tryd.underlying118
  a173 := Tryd.isAgg118
  z173 := Tryd.sizeOf118
  v173 := Tryd.zeroValue118
  t175 := Tryd.underlying98
  a175 := Tryd.isAgg98
  z175 := Tryd.sizeOf98
  v175 := Tryd.zeroValue98
  t210 := Tryd.underlying102
  a210 := Tryd.isAgg102
  z210 := Tryd.sizeOf102
  v210 := Tryd.zeroValue102
  t212 := Tryd.underlying121
  a212 := Tryd.isAgg121
  z212 := Tryd.sizeOf121
  v212 := Tryd.zeroValue121
  t213 := Tryd.underlying122
  a213 := Tryd.isAgg122
  z213 := Tryd.sizeOf122
  t232 := Tryd.underlying126
  a232 := Tryd.isAgg126
  z232 := Tryd.sizeOf126
  v232 := Tryd.zeroValue126
  t233 := Tryd.underlying127
  a233 := Tryd.isAgg127
  z233 := Tryd.sizeOf127
  v233 := Tryd.zeroValue127
  g15 := by kernel_rfl
  g16 := by kernel_rfl
  g17 := by kernel_rfl
  g18 := by kernel_rfl
  g19 := by kernel_rfl
  t80 := Tryd.underlying59
  a80 := Tryd.isAgg59
  z80 := Tryd.sizeOf59
  v80 := Tryd.zeroValue59
  i0 := by kernel_rfl
  i2 := by kernel_rfl
  i3 := by kernel_rfl
  i4 := by kernel_rfl
  i5 := by kernel_rfl
  i9 := by kernel_rfl
  i20 := by kernel_rfl
  i21 := by kernel_rfl
  i37 := by kernel_rfl
  i46 := by kernel_rfl
  i51 := by kernel_rfl
  i53 := by kernel_rfl
  i75 := by kernel_rfl
  i76 := by kernel_rfl
  i80 := by kernel_rfl
  i85 := by kernel_rfl
  i127 := by kernel_rfl
  i143 := by kernel_rfl
  i145 := by kernel_rfl
  i167 := by kernel_rfl
  i168 := by kernel_rfl
  i171 := by kernel_rfl
  i173 := by kernel_rfl
  i175 := by kernel_rfl
  i210 := by kernel_rfl
  i212 := by kernel_rfl
  i232 := by kernel_rfl
  i233 := by kernel_rfl
  m15 := by kernel_rfl
  m16 := by kernel_rfl
  m17 := by kernel_rfl
  m18 := by kernel_rfl
  m19 := by kernel_rfl
  c0 := by kernel_rfl
  c2 := by kernel_rfl
  c3 := by kernel_rfl
  c4 := by kernel_rfl
  c5 := by kernel_rfl
  c9 := by kernel_rfl
  c20 := by kernel_rfl
  c21 := by kernel_rfl
  c37 := by kernel_rfl
  c46 := by kernel_rfl
  c51 := by kernel_rfl
  c53 := by kernel_rfl
  c75 := by kernel_rfl
  c76 := by kernel_rfl
  c80 := by kernel_rfl
  c85 := by kernel_rfl
  c127 := by kernel_rfl
  c143 := by kernel_rfl
  c145 := by kernel_rfl
  c167 := by kernel_rfl
  c168 := by kernel_rfl
  c171 := by kernel_rfl
  c173 := by kernel_rfl
  c175 := by kernel_rfl
  c210 := by kernel_rfl
  c212 := by kernel_rfl
  c213 := by kernel_rfl
  c232 := by kernel_rfl
  c233 := by kernel_rfl }
def Tryd.lays152_ren : Go.Shelf.Ren := ⟨fun | 152 => 56 | 137 => 25 | 119 => 71 | 224 => 72 | 225 => 73 | 217 => 45 | 266 => 62 | n => n, fun | 9 => 9 | 21 => 21 | 3 => 3 | 4 => 4 | 5 => 5 | 0 => 0 | 46 => 46 | n => n, fun | n => n⟩
theorem Tryd.lays152 : Go.Proofs.Lays.n152 Tryd.prog Tryd.lays152_ren := {
  mixed := by kernel_rfl
  f119 := Tryd.func71.trans (congrArg some (by kernel_rfl))
  f137 := Tryd.func25.trans (congrArg some (by kernel_rfl))
  f152 := Tryd.func56.trans (congrArg some (by kernel_rfl))
  f217 := Tryd.func45.trans (congrArg some (by kernel_rfl))
  f224 := Tryd.func72.trans (congrArg some (by kernel_rfl))
  f225 := Tryd.func73.trans (congrArg some (by kernel_rfl))
  f266 := Tryd.func62.trans (congrArg some (by kernel_rfl))
  t0 := Tryd.underlying0
  a0 := Tryd.isAgg0
  z0 := Tryd.sizeOf0
  v0 := Tryd.zeroValue0
  t3 := Tryd.underlying3
  a3 := Tryd.isAgg3
  z3 := Tryd.sizeOf3
  v3 := Tryd.zeroValue3
  t4 := Tryd.underlying4
  a4 := Tryd.isAgg4
  z4 := Tryd.sizeOf4
  v4 := Tryd.zeroValue4
  t5 := Tryd.underlying5
  a5 := Tryd.isAgg5
  z5 := Tryd.sizeOf5
  v5 := Tryd.zeroValue5
  t9 := Tryd.underlying9
  a9 := Tryd.isAgg9
  z9 := Tryd.sizeOf9
  v9 := Tryd.zeroValue9
  t21 := Tryd.underlying21
  a21 := Tryd.isAgg21
  z21 := Tryd.sizeOf21
  v21 := Tryd.zeroValue21
  t46 := Tryd.underlying46
  a46 := Tryd.isAgg46
  z46 := Tryd.sizeOf46
  v46 := Tryd.zeroValue46 }
end Go.Proofs
