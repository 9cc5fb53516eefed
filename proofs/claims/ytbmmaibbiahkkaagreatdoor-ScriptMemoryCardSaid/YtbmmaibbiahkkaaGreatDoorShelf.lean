/- What functions of the library hand back, laid from the shelf. Conditions: none. -/
import Derived.Shelf.Strings.Builder1
import Derived.Shelf.Strings.Builder2
import Derived.Shelf.Strings.Trim
import Derived.Shelf.Small.Utf8
import Derived.Shelf.Small.Strs
import Derived.Shelf.Strings.BuilderF
import Derived.Shelf.Utf8.RuneCount
import Derived.Shelf.Strconv.Itoa0
import Derived.Shelf.Strconv.Itoa1
import Derived.Shelf.Strconv.Itoa2
import Derived.Shelf.Strconv.Itoa3
import Derived.Shelf.Strconv.Itoa4
import Derived.Shelf.Strconv.ParseIntEmpty
import Derived.Shelf.Strconv.Clone
import Derived.Shelf.Strconv.SyntaxError
import Derived.Shelf.Strconv.ToError
import Derived.Shelf.Strconv.Lower
import Derived.Shelf.Strconv.ParseUint10
import Derived.Shelf.Strconv.ParseUint10Empty
import Derived.Shelf.Strconv.ParseUint10Any
import Derived.Shelf.Strconv.ParseInt10
import Derived.Shelf.Strconv.RangeError
import Derived.Shelf.Strconv.ToErrorRange
import Derived.Shelf.Strconv.ParseUintEmpty
import Derived.Shelf.Strconv.ParseUint10b64
import Derived.Shelf.Strconv.ParseUint10b32
import Derived.Shelf.Strconv.ParseUint10b16
import Derived.Shelf.Strconv.ParseUint10b8
import Derived.Shelf.Strconv.ParseUint10At
import Derived.Shelf.Strconv.ParseInt10At64
import Derived.Shelf.Strconv.ParseInt10At32
import Derived.Shelf.Strconv.ParseInt10At16
import Derived.Shelf.Strconv.ParseInt10At8
import Derived.Shelf.Strconv.ParseInt10All
import Derived.Shelf.Strconv.ParseIntPublic10
import Derived.Ground.MpProg
import Derived.Shelf.Pu.ParseUintPublic10
import Derived.Shelf.Strings.Search1
import Derived.Shelf.Strings.Search2
import Derived.Shelf.Strings.Search3
import Derived.Shelf.Strings.Count
import Derived.Shelf.Strings.Shaped
import Derived.Shelf.Strings.Prefix
import Derived.Shelf.Strings.Split
import Derived.Shelf.Strings.SplitShaped
import Derived.Shelf.Unicode.Decode
import Derived.Shelf.Strings.Runes
import Derived.Shelf.Strings.RuneCount
import Derived.Shelf.Strings.AsciiSet
import Derived.Shelf.Strings.Explode
import Derived.Shelf.Bits.Mul64
import Derived.Shelf.Strings.Repeat
import Derived.Shelf.Unicode.DecodeSlow
import Derived.Shelf.Unicode.DecodeAny
import Derived.Shelf.Unicode.DecodeLast
import Derived.Test.YtbmmaibbiahkkaaGreatDoorProg
namespace Go.Proofs
open Go.Shelf
def Tryz.lays160_ren : Go.Shelf.Ren := ⟨fun | 160 => 63 | 232 => 87 | 231 => 86 | 227 => 88 | 234 => 90 | 233 => 89 | 236 => 92 | 235 => 91 | 228 => 114 | 271 => 116 | 151 => 115 | 197 => 59 | 120 => 129 | 152 => 128 | 260 => 80 | 137 => 132 | 119 => 133 | 224 => 106 | 225 => 105 | 217 => 104 | 266 => 124 | n => n, fun | 9 => 9 | 4 => 4 | 3 => 3 | 5 => 5 | 117 => 144 | 116 => 143 | 0 => 0 | 124 => 147 | 21 => 21 | 105 => 113 | 46 => 36 | 119 => 159 | 139 => 162 | 138 => 161 | n => n, fun | 3 => 2 | 4 => 3 | n => n⟩
theorem Tryz.lays160 : Go.Proofs.Lays.n160 Tryz.prog Tryz.lays160_ren := {
 mixed := by kernel_rfl
 f119 := Tryz.func133.trans (congrArg some (by kernel_rfl))
 f120 := Tryz.func129.trans (congrArg some (by kernel_rfl))
 f137 := Tryz.func132.trans (congrArg some (by kernel_rfl))
 f151 := Tryz.func115.trans (congrArg some (by kernel_rfl))
 f152 := Tryz.func128.trans (congrArg some (by kernel_rfl))
 f160 := Tryz.func63.trans (congrArg some (by kernel_rfl))
 f197 := Tryz.func59.trans (congrArg some (by kernel_rfl))
 f217 := Tryz.func104.trans (congrArg some (by kernel_rfl))
 f224 := Tryz.func106.trans (congrArg some (by kernel_rfl))
 f225 := Tryz.func105.trans (congrArg some (by kernel_rfl))
 f227 := Tryz.func88.trans (congrArg some (by kernel_rfl))
 f228 := Tryz.func114.trans (congrArg some (by kernel_rfl))
 f231 := Tryz.func86.trans (congrArg some (by kernel_rfl))
 f232 := Tryz.func87.trans (congrArg some (by kernel_rfl))
 f233 := Tryz.func89.trans (congrArg some (by kernel_rfl))
 f234 := Tryz.func90.trans (congrArg some (by kernel_rfl))
 f235 := Tryz.func91.trans (congrArg some (by kernel_rfl))
 f236 := Tryz.func92.trans (congrArg some (by kernel_rfl))
 f260 := Tryz.func80.trans (congrArg some (by kernel_rfl))
 f266 := Tryz.func124.trans (congrArg some (by kernel_rfl))
 f271 := Tryz.func116.trans (congrArg some (by kernel_rfl))
 t0 := Tryz.underlying0
 a0 := Tryz.isAgg0
 z0 := Tryz.sizeOf0
 v0 := Tryz.zeroValue0
 t3 := Tryz.underlying3
 a3 := Tryz.isAgg3
 z3 := Tryz.sizeOf3
 v3 := Tryz.zeroValue3
 t4 := Tryz.underlying4
 a4 := Tryz.isAgg4
 z4 := Tryz.sizeOf4
 v4 := Tryz.zeroValue4
 t5 := Tryz.underlying5
 a5 := Tryz.isAgg5
 z5 := Tryz.sizeOf5
 v5 := Tryz.zeroValue5
 t9 := Tryz.underlying9
 a9 := Tryz.isAgg9
 z9 := Tryz.sizeOf9
 v9 := Tryz.zeroValue9
 t21 := Tryz.underlying21
 a21 := Tryz.isAgg21
 z21 := Tryz.sizeOf21
 v21 := Tryz.zeroValue21
 t46 := Tryz.underlying36
 a46 := Tryz.isAgg36
 z46 := Tryz.sizeOf36
 v46 := Tryz.zeroValue36
 t105 := Tryz.underlying113
 a105 := Tryz.isAgg113
 z105 := Tryz.sizeOf113
 v105 := Tryz.zeroValue113
 t116 := Tryz.underlying143
 a116 := Tryz.isAgg143
 z116 := Tryz.sizeOf143
 t117 := Tryz.underlying144
 a117 := Tryz.isAgg144
 z117 := Tryz.sizeOf144
 v117 := Tryz.zeroValue144
 t119 := Tryz.underlying159
 a119 := Tryz.isAgg159
 z119 := Tryz.sizeOf159
 t124 := Tryz.underlying147
 a124 := Tryz.isAgg147
 z124 := Tryz.sizeOf147
 v124 := Tryz.zeroValue147
 t138 := Tryz.underlying161
 a138 := Tryz.isAgg161
 z138 := Tryz.sizeOf161
 v138 := Tryz.zeroValue161
 t139 := Tryz.underlying162
 a139 := Tryz.isAgg162
 z139 := Tryz.sizeOf162
 v139 := Tryz.zeroValue162
 g3 := by kernel_rfl
 g4 := by kernel_rfl }
def Tryz.lays283_ren : Go.Shelf.Ren := ⟨fun | 283 => 69 | n => n, fun | 3 => 3 | 9 => 9 | 4 => 4 | n => n, fun | n => n⟩
theorem Tryz.lays283 : Go.Proofs.Lays.n283 Tryz.prog Tryz.lays283_ren := {
 mixed := by kernel_rfl
 f283 := Tryz.func69.trans (congrArg some (by kernel_rfl))
 t3 := Tryz.underlying3
 a3 := Tryz.isAgg3
 z3 := Tryz.sizeOf3
 v3 := Tryz.zeroValue3
 t4 := Tryz.underlying4
 a4 := Tryz.isAgg4
 z4 := Tryz.sizeOf4
 v4 := Tryz.zeroValue4
 t9 := Tryz.underlying9
 a9 := Tryz.isAgg9
 z9 := Tryz.sizeOf9
 v9 := Tryz.zeroValue9 }
def Tryz.laysM284_ren : Go.Shelf.Ren := ⟨fun | 284 => 70 | 129 => 95 | 317 => 94 | 318 => 96 | n => n, fun | 53 => 41 | 3 => 3 | 212 => 150 | 0 => 0 | 4 => 4 | 46 => 36 | 5 => 5 | 9 => 9 | n => n, fun | 17 => 1 | n => n⟩
theorem Tryz.laysM284 : Go.Proofs.LaysM.n284 Tryz.prog Tryz.laysM284_ren := {
 mixed := by kernel_rfl
 f129 := Tryz.func95.trans (congrArg some (by kernel_rfl))
 f284 := Tryz.func70.trans (congrArg some (by kernel_rfl))
 f317 := Tryz.func94.trans (congrArg some (by kernel_rfl))
 f318 := Tryz.func96.trans (congrArg some (by kernel_rfl))
 t0 := Tryz.underlying0
 a0 := Tryz.isAgg0
 z0 := Tryz.sizeOf0
 v0 := Tryz.zeroValue0
 t3 := Tryz.underlying3
 a3 := Tryz.isAgg3
 z3 := Tryz.sizeOf3
 v3 := Tryz.zeroValue3
 t4 := Tryz.underlying4
 a4 := Tryz.isAgg4
 z4 := Tryz.sizeOf4
 v4 := Tryz.zeroValue4
 t5 := Tryz.underlying5
 a5 := Tryz.isAgg5
 z5 := Tryz.sizeOf5
 v5 := Tryz.zeroValue5
 t9 := Tryz.underlying9
 a9 := Tryz.isAgg9
 z9 := Tryz.sizeOf9
 v9 := Tryz.zeroValue9
 t46 := Tryz.underlying36
 a46 := Tryz.isAgg36
 z46 := Tryz.sizeOf36
 v46 := Tryz.zeroValue36
 t53 := Tryz.underlying41
 a53 := Tryz.isAgg41
 z53 := Tryz.sizeOf41
 v53 := Tryz.zeroValue41
 t212 := Tryz.underlying150
 a212 := Tryz.isAgg150
 z212 := Tryz.sizeOf150
 v212 := Tryz.zeroValue150
 g17 := by kernel_rfl
 i0 := by kernel_rfl
 i3 := by kernel_rfl
 i4 := by kernel_rfl
 i5 := by kernel_rfl
 i9 := by kernel_rfl
 i46 := by kernel_rfl
 i53 := by kernel_rfl
 i212 := by kernel_rfl
 m17 := by kernel_rfl }
def Tryz.lays285_ren : Go.Shelf.Ren := ⟨fun | 285 => 71 | n => n, fun | 37 => 39 | 53 => 41 | 3 => 3 | 4 => 4 | 51 => 151 | 9 => 9 | 5 => 5 | 0 => 0 | n => n, fun | n => n⟩
theorem Tryz.lays285 : Go.Proofs.Lays.n285 Tryz.prog Tryz.lays285_ren := {
 mixed := by kernel_rfl
 f285 := Tryz.func71.trans (congrArg some (by kernel_rfl))
 t0 := Tryz.underlying0
 a0 := Tryz.isAgg0
 z0 := Tryz.sizeOf0
 v0 := Tryz.zeroValue0
 t3 := Tryz.underlying3
 a3 := Tryz.isAgg3
 z3 := Tryz.sizeOf3
 v3 := Tryz.zeroValue3
 t4 := Tryz.underlying4
 a4 := Tryz.isAgg4
 z4 := Tryz.sizeOf4
 v4 := Tryz.zeroValue4
 t5 := Tryz.underlying5
 a5 := Tryz.isAgg5
 z5 := Tryz.sizeOf5
 v5 := Tryz.zeroValue5
 t9 := Tryz.underlying9
 a9 := Tryz.isAgg9
 z9 := Tryz.sizeOf9
 v9 := Tryz.zeroValue9
 t37 := Tryz.underlying39
 a37 := Tryz.isAgg39
 z37 := Tryz.sizeOf39
 v37 := Tryz.zeroValue39
 t51 := Tryz.underlying151
 a51 := Tryz.isAgg151
 z51 := Tryz.sizeOf151
 v51 := Tryz.zeroValue151
 t53 := Tryz.underlying41
 a53 := Tryz.isAgg41
 z53 := Tryz.sizeOf41
 v53 := Tryz.zeroValue41 }
def Tryz.laysM171_ren : Go.Shelf.Ren := ⟨fun | 171 => 30 | 243 => 50 | 246 => 51 | 283 => 69 | 284 => 70 | 285 => 71 | 286 => 72 | 129 => 95 | 317 => 94 | 318 => 96 | 319 => 97 | 320 => 98 | 337 => 119 | 338 => 120 | n => n, fun | 3 => 3 | 9 => 9 | 2 => 2 | 4 => 4 | 171 => 126 | 0 => 0 | 53 => 41 | 37 => 39 | 5 => 5 | 173 => 129 | 212 => 150 | 51 => 151 | 20 => 20 | 213 => 152 | 46 => 36 | 232 => 181 | 233 => 182 | n => n, fun | 17 => 1 | 18 => 7 | 19 => 8 | n => n⟩
theorem Tryz.laysM171 : Go.Proofs.LaysM.n171 Tryz.prog Tryz.laysM171_ren := {
 mixed := by kernel_rfl
 f129 := Tryz.func95.trans (congrArg some (by kernel_rfl))
 f171 := Tryz.func30.trans (congrArg some (by kernel_rfl))
 f243 := Tryz.func50.trans (congrArg some (by kernel_rfl))
 f246 := Tryz.func51.trans (congrArg some (by kernel_rfl))
 f283 := Tryz.func69.trans (congrArg some (by kernel_rfl))
 f284 := Tryz.func70.trans (congrArg some (by kernel_rfl))
 f285 := Tryz.func71.trans (congrArg some (by kernel_rfl))
 f286 := Tryz.func72.trans (congrArg some (by kernel_rfl))
 f317 := Tryz.func94.trans (congrArg some (by kernel_rfl))
 f318 := Tryz.func96.trans (congrArg some (by kernel_rfl))
 f319 := Tryz.func97.trans (congrArg some (by kernel_rfl))
 f320 := Tryz.func98.trans (congrArg some (by kernel_rfl))
 f337 := Tryz.func119.trans (congrArg some (by kernel_rfl))
 f338 := Tryz.func120.trans (congrArg some (by kernel_rfl))
 t0 := Tryz.underlying0
 a0 := Tryz.isAgg0
 z0 := Tryz.sizeOf0
 v0 := Tryz.zeroValue0
 t2 := Tryz.underlying2
 a2 := Tryz.isAgg2
 z2 := Tryz.sizeOf2
 v2 := Tryz.zeroValue2
 t3 := Tryz.underlying3
 a3 := Tryz.isAgg3
 z3 := Tryz.sizeOf3
 v3 := Tryz.zeroValue3
 t4 := Tryz.underlying4
 a4 := Tryz.isAgg4
 z4 := Tryz.sizeOf4
 v4 := Tryz.zeroValue4
 t5 := Tryz.underlying5
 a5 := Tryz.isAgg5
 z5 := Tryz.sizeOf5
 v5 := Tryz.zeroValue5
 t9 := Tryz.underlying9
 a9 := Tryz.isAgg9
 z9 := Tryz.sizeOf9
 v9 := Tryz.zeroValue9
 t20 := Tryz.underlying20
 a20 := Tryz.isAgg20
 z20 := Tryz.sizeOf20
 v20 := Tryz.zeroValue20
 t37 := Tryz.underlying39
 a37 := Tryz.isAgg39
 z37 := Tryz.sizeOf39
 v37 := Tryz.zeroValue39
 t46 := Tryz.underlying36
 a46 := Tryz.isAgg36
 z46 := Tryz.sizeOf36
 v46 := Tryz.zeroValue36
 t51 := Tryz.underlying151
 a51 := Tryz.isAgg151
 z51 := Tryz.sizeOf151
 v51 := Tryz.zeroValue151
 t53 := Tryz.underlying41
 a53 := Tryz.isAgg41
 z53 := Tryz.sizeOf41
 v53 := Tryz.zeroValue41
 t171 := Tryz.underlying126
 a171 := Tryz.isAgg126
 z171 := Tryz.sizeOf126
 v171 := Tryz.zeroValue126
 t173 := Tryz.underlying129
 a173 := Tryz.isAgg129
 z173 := Tryz.sizeOf129
 v173 := Tryz.zeroValue129
 t212 := Tryz.underlying150
 a212 := Tryz.isAgg150
 z212 := Tryz.sizeOf150
 v212 := Tryz.zeroValue150
 t213 := Tryz.underlying152
 a213 := Tryz.isAgg152
 z213 := Tryz.sizeOf152
 t232 := Tryz.underlying181
 a232 := Tryz.isAgg181
 z232 := Tryz.sizeOf181
 v232 := Tryz.zeroValue181
 t233 := Tryz.underlying182
 a233 := Tryz.isAgg182
 z233 := Tryz.sizeOf182
 v233 := Tryz.zeroValue182
 g17 := by kernel_rfl
 g18 := by kernel_rfl
 g19 := by kernel_rfl
 i0 := by kernel_rfl
 i2 := by kernel_rfl
 i3 := by kernel_rfl
 i4 := by kernel_rfl
 i5 := by kernel_rfl
 i9 := by kernel_rfl
 i20 := by kernel_rfl
 i37 := by kernel_rfl
 i46 := by kernel_rfl
 i51 := by kernel_rfl
 i53 := by kernel_rfl
 i171 := by kernel_rfl
 i173 := by kernel_rfl
 i212 := by kernel_rfl
 i232 := by kernel_rfl
 i233 := by kernel_rfl
 m17 := by kernel_rfl
 m18 := by kernel_rfl
 m19 := by kernel_rfl }
def Tryz.laysM173_ren : Go.Shelf.Ren := ⟨fun | 173 => 33 | 246 => 51 | 283 => 69 | 284 => 70 | 285 => 71 | 286 => 72 | 129 => 95 | 317 => 94 | 318 => 96 | 319 => 97 | 320 => 98 | 337 => 119 | 338 => 120 | n => n, fun | 2 => 2 | 3 => 3 | 9 => 9 | 4 => 4 | 171 => 126 | 0 => 0 | 53 => 41 | 37 => 39 | 5 => 5 | 173 => 129 | 212 => 150 | 51 => 151 | 20 => 20 | 213 => 152 | 46 => 36 | 232 => 181 | 233 => 182 | n => n, fun | 17 => 1 | 18 => 7 | 19 => 8 | n => n⟩
theorem Tryz.laysM173 : Go.Proofs.LaysM.n173 Tryz.prog Tryz.laysM173_ren := {
 mixed := by kernel_rfl
 f129 := Tryz.func95.trans (congrArg some (by kernel_rfl))
 f173 := Tryz.func33.trans (congrArg some (by kernel_rfl))
 f246 := Tryz.func51.trans (congrArg some (by kernel_rfl))
 f283 := Tryz.func69.trans (congrArg some (by kernel_rfl))
 f284 := Tryz.func70.trans (congrArg some (by kernel_rfl))
 f285 := Tryz.func71.trans (congrArg some (by kernel_rfl))
 f286 := Tryz.func72.trans (congrArg some (by kernel_rfl))
 f317 := Tryz.func94.trans (congrArg some (by kernel_rfl))
 f318 := Tryz.func96.trans (congrArg some (by kernel_rfl))
 f319 := Tryz.func97.trans (congrArg some (by kernel_rfl))
 f320 := Tryz.func98.trans (congrArg some (by kernel_rfl))
 f337 := Tryz.func119.trans (congrArg some (by kernel_rfl))
 f338 := Tryz.func120.trans (congrArg some (by kernel_rfl))
 t0 := Tryz.underlying0
 a0 := Tryz.isAgg0
 z0 := Tryz.sizeOf0
 v0 := Tryz.zeroValue0
 t2 := Tryz.underlying2
 a2 := Tryz.isAgg2
 z2 := Tryz.sizeOf2
 v2 := Tryz.zeroValue2
 t3 := Tryz.underlying3
 a3 := Tryz.isAgg3
 z3 := Tryz.sizeOf3
 v3 := Tryz.zeroValue3
 t4 := Tryz.underlying4
 a4 := Tryz.isAgg4
 z4 := Tryz.sizeOf4
 v4 := Tryz.zeroValue4
 t5 := Tryz.underlying5
 a5 := Tryz.isAgg5
 z5 := Tryz.sizeOf5
 v5 := Tryz.zeroValue5
 t9 := Tryz.underlying9
 a9 := Tryz.isAgg9
 z9 := Tryz.sizeOf9
 v9 := Tryz.zeroValue9
 t20 := Tryz.underlying20
 a20 := Tryz.isAgg20
 z20 := Tryz.sizeOf20
 v20 := Tryz.zeroValue20
 t37 := Tryz.underlying39
 a37 := Tryz.isAgg39
 z37 := Tryz.sizeOf39
 v37 := Tryz.zeroValue39
 t46 := Tryz.underlying36
 a46 := Tryz.isAgg36
 z46 := Tryz.sizeOf36
 v46 := Tryz.zeroValue36
 t51 := Tryz.underlying151
 a51 := Tryz.isAgg151
 z51 := Tryz.sizeOf151
 v51 := Tryz.zeroValue151
 t53 := Tryz.underlying41
 a53 := Tryz.isAgg41
 z53 := Tryz.sizeOf41
 v53 := Tryz.zeroValue41
 t171 := Tryz.underlying126
 a171 := Tryz.isAgg126
 z171 := Tryz.sizeOf126
 v171 := Tryz.zeroValue126
 t173 := Tryz.underlying129
 a173 := Tryz.isAgg129
 z173 := Tryz.sizeOf129
 v173 := Tryz.zeroValue129
 t212 := Tryz.underlying150
 a212 := Tryz.isAgg150
 z212 := Tryz.sizeOf150
 v212 := Tryz.zeroValue150
 t213 := Tryz.underlying152
 a213 := Tryz.isAgg152
 z213 := Tryz.sizeOf152
 t232 := Tryz.underlying181
 a232 := Tryz.isAgg181
 z232 := Tryz.sizeOf181
 v232 := Tryz.zeroValue181
 t233 := Tryz.underlying182
 a233 := Tryz.isAgg182
 z233 := Tryz.sizeOf182
 v233 := Tryz.zeroValue182
 g17 := by kernel_rfl
 g18 := by kernel_rfl
 g19 := by kernel_rfl
 i0 := by kernel_rfl
 i2 := by kernel_rfl
 i3 := by kernel_rfl
 i4 := by kernel_rfl
 i5 := by kernel_rfl
 i9 := by kernel_rfl
 i20 := by kernel_rfl
 i37 := by kernel_rfl
 i46 := by kernel_rfl
 i51 := by kernel_rfl
 i53 := by kernel_rfl
 i171 := by kernel_rfl
 i173 := by kernel_rfl
 i212 := by kernel_rfl
 i232 := by kernel_rfl
 i233 := by kernel_rfl
 m17 := by kernel_rfl
 m18 := by kernel_rfl
 m19 := by kernel_rfl }
def Tryz.lays321_ren : Go.Shelf.Ren := ⟨fun | 321 => 117 | n => n, fun | 5 => 5 | n => n, fun | n => n⟩
theorem Tryz.lays321 : Go.Proofs.Lays.n321 Tryz.prog Tryz.lays321_ren := {
 mixed := by kernel_rfl
 f321 := Tryz.func117.trans (congrArg some (by kernel_rfl))
 t5 := Tryz.underlying5
 a5 := Tryz.isAgg5
 z5 := Tryz.sizeOf5
 v5 := Tryz.zeroValue5 }
def Tryz.laysC174_ren : Go.Shelf.Ren := ⟨fun | 174 => 62 | 247 => 84 | 245 => 85 | 287 => 93 | 279 => 110 | 280 => 111 | 281 => 112 | 282 => 113 | 321 => 117 | 322 => 118 | 316 => 126 | 171 => 30 | 205 => 127 | 243 => 50 | 246 => 51 | 283 => 69 | 284 => 70 | 285 => 71 | 286 => 72 | 129 => 95 | 317 => 94 | 318 => 96 | 319 => 97 | 320 => 98 | 337 => 119 | 338 => 120 | n => n, fun | 9 => 9 | 3 => 3 | 2 => 2 | 75 => 76 | 85 => 117 | 4 => 4 | 167 => 165 | 5 => 5 | 53 => 41 | 175 => 120 | 46 => 36 | 168 => 166 | 37 => 39 | 0 => 0 | 210 => 178 | 21 => 21 | 127 => 109 | 145 => 188 | 143 => 186 | 171 => 126 | 173 => 129 | 212 => 150 | 51 => 151 | 20 => 20 | 213 => 152 | 232 => 181 | 233 => 182 | 80 => 86 | n => n, fun | 15 => 5 | 16 => 6 | 17 => 1 | 18 => 7 | 19 => 8 | n => n⟩
theorem Tryz.laysC174 : Go.Proofs.LaysC.n174 Tryz.prog Tryz.laysC174_ren := {
 mixed := by kernel_rfl
 f129 := Tryz.func95.trans (congrArg some (by kernel_rfl))
 f171 := Tryz.func30.trans (congrArg some (by kernel_rfl))
 f174 := Tryz.func62.trans (congrArg some (by kernel_rfl))
 f205 := Tryz.func127.trans (congrArg some (by kernel_rfl))
 f243 := Tryz.func50.trans (congrArg some (by kernel_rfl))
 f245 := Tryz.func85.trans (congrArg some (by kernel_rfl))
 f246 := Tryz.func51.trans (congrArg some (by kernel_rfl))
 f247 := Tryz.func84.trans (congrArg some (by kernel_rfl))
 f279 := Tryz.func110.trans (congrArg some (by kernel_rfl))
 f280 := Tryz.func111.trans (congrArg some (by kernel_rfl))
 f281 := Tryz.func112.trans (congrArg some (by kernel_rfl))
 f282 := Tryz.func113.trans (congrArg some (by kernel_rfl))
 f283 := Tryz.func69.trans (congrArg some (by kernel_rfl))
 f284 := Tryz.func70.trans (congrArg some (by kernel_rfl))
 f285 := Tryz.func71.trans (congrArg some (by kernel_rfl))
 f286 := Tryz.func72.trans (congrArg some (by kernel_rfl))
 f287 := Tryz.func93.trans (congrArg some (by kernel_rfl))
 f316 := Tryz.func126.trans (congrArg some (by kernel_rfl))
 f317 := Tryz.func94.trans (congrArg some (by kernel_rfl))
 f318 := Tryz.func96.trans (congrArg some (by kernel_rfl))
 f319 := Tryz.func97.trans (congrArg some (by kernel_rfl))
 f320 := Tryz.func98.trans (congrArg some (by kernel_rfl))
 f321 := Tryz.func117.trans (congrArg some (by kernel_rfl))
 f322 := Tryz.func118.trans (congrArg some (by kernel_rfl))
 f337 := Tryz.func119.trans (congrArg some (by kernel_rfl))
 f338 := Tryz.func120.trans (congrArg some (by kernel_rfl))
 t0 := Tryz.underlying0
 a0 := Tryz.isAgg0
 z0 := Tryz.sizeOf0
 v0 := Tryz.zeroValue0
 t2 := Tryz.underlying2
 a2 := Tryz.isAgg2
 z2 := Tryz.sizeOf2
 v2 := Tryz.zeroValue2
 t3 := Tryz.underlying3
 a3 := Tryz.isAgg3
 z3 := Tryz.sizeOf3
 v3 := Tryz.zeroValue3
 t4 := Tryz.underlying4
 a4 := Tryz.isAgg4
 z4 := Tryz.sizeOf4
 v4 := Tryz.zeroValue4
 t5 := Tryz.underlying5
 a5 := Tryz.isAgg5
 z5 := Tryz.sizeOf5
 v5 := Tryz.zeroValue5
 t9 := Tryz.underlying9
 a9 := Tryz.isAgg9
 z9 := Tryz.sizeOf9
 v9 := Tryz.zeroValue9
 t20 := Tryz.underlying20
 a20 := Tryz.isAgg20
 z20 := Tryz.sizeOf20
 v20 := Tryz.zeroValue20
 t21 := Tryz.underlying21
 a21 := Tryz.isAgg21
 z21 := Tryz.sizeOf21
 v21 := Tryz.zeroValue21
 t37 := Tryz.underlying39
 a37 := Tryz.isAgg39
 z37 := Tryz.sizeOf39
 v37 := Tryz.zeroValue39
 t46 := Tryz.underlying36
 a46 := Tryz.isAgg36
 z46 := Tryz.sizeOf36
 v46 := Tryz.zeroValue36
 t51 := Tryz.underlying151
 a51 := Tryz.isAgg151
 z51 := Tryz.sizeOf151
 v51 := Tryz.zeroValue151
 t53 := Tryz.underlying41
 a53 := Tryz.isAgg41
 z53 := Tryz.sizeOf41
 v53 := Tryz.zeroValue41
 t75 := Tryz.underlying76
 a75 := Tryz.isAgg76
 z75 := Tryz.sizeOf76
 v75 := Tryz.zeroValue76
 t85 := Tryz.underlying117
 a85 := Tryz.isAgg117
 z85 := Tryz.sizeOf117
 v85 := Tryz.zeroValue117
 t127 := Tryz.underlying109
 a127 := Tryz.isAgg109
 z127 := Tryz.sizeOf109
 v127 := Tryz.zeroValue109
 t143 := Tryz.underlying186
 a143 := Tryz.isAgg186
 z143 := Tryz.sizeOf186
 v143 := Tryz.zeroValue186
 t145 := Tryz.underlying188
 a145 := Tryz.isAgg188
 z145 := Tryz.sizeOf188
 v145 := Tryz.zeroValue188
 t167 := Tryz.underlying165
 a167 := Tryz.isAgg165
 z167 := Tryz.sizeOf165
 v167 := Tryz.zeroValue165
 t168 := Tryz.underlying166
 a168 := Tryz.isAgg166
 z168 := Tryz.sizeOf166
 v168 := Tryz.zeroValue166
 t171 := Tryz.underlying126
 a171 := Tryz.isAgg126
 z171 := Tryz.sizeOf126
 v171 := Tryz.zeroValue126
 t173 := Tryz.underlying129
 a173 := Tryz.isAgg129
 z173 := Tryz.sizeOf129
 v173 := Tryz.zeroValue129
 t175 := Tryz.underlying120
 a175 := Tryz.isAgg120
 z175 := Tryz.sizeOf120
 v175 := Tryz.zeroValue120
 t210 := Tryz.underlying178
 a210 := Tryz.isAgg178
 z210 := Tryz.sizeOf178
 v210 := Tryz.zeroValue178
 t212 := Tryz.underlying150
 a212 := Tryz.isAgg150
 z212 := Tryz.sizeOf150
 v212 := Tryz.zeroValue150
 t213 := Tryz.underlying152
 a213 := Tryz.isAgg152
 z213 := Tryz.sizeOf152
 t232 := Tryz.underlying181
 a232 := Tryz.isAgg181
 z232 := Tryz.sizeOf181
 v232 := Tryz.zeroValue181
 t233 := Tryz.underlying182
 a233 := Tryz.isAgg182
 z233 := Tryz.sizeOf182
 v233 := Tryz.zeroValue182
 g15 := by kernel_rfl
 g16 := by kernel_rfl
 g17 := by kernel_rfl
 g18 := by kernel_rfl
 g19 := by kernel_rfl
 t80 := Tryz.underlying86
 a80 := Tryz.isAgg86
 z80 := Tryz.sizeOf86
 v80 := Tryz.zeroValue86
 i0 := by kernel_rfl
 i2 := by kernel_rfl
 i3 := by kernel_rfl
 i4 := by kernel_rfl
 i5 := by kernel_rfl
 i9 := by kernel_rfl
 i20 := by kernel_rfl
 i21 := by kernel_rfl
 i37 := by kernel_rfl
 i46 := by kernel_rfl
 i51 := by kernel_rfl
 i53 := by kernel_rfl
 i75 := by kernel_rfl
 i80 := by kernel_rfl
 i85 := by kernel_rfl
 i127 := by kernel_rfl
 i143 := by kernel_rfl
 i145 := by kernel_rfl
 i167 := by kernel_rfl
 i168 := by kernel_rfl
 i171 := by kernel_rfl
 i173 := by kernel_rfl
 i175 := by kernel_rfl
 i210 := by kernel_rfl
 i212 := by kernel_rfl
 i232 := by kernel_rfl
 i233 := by kernel_rfl
 m15 := by kernel_rfl
 m16 := by kernel_rfl
 m17 := by kernel_rfl
 m18 := by kernel_rfl
 m19 := by kernel_rfl
 c0 := by kernel_rfl
 c2 := by kernel_rfl
 c3 := by kernel_rfl
 c4 := by kernel_rfl
 c5 := by kernel_rfl
 c9 := by kernel_rfl
 c20 := by kernel_rfl
 c21 := by kernel_rfl
 c37 := by kernel_rfl
 c46 := by kernel_rfl
 c51 := by kernel_rfl
 c53 := by kernel_rfl
 c75 := by kernel_rfl
 c80 := by kernel_rfl
 c85 := by kernel_rfl
 c127 := by kernel_rfl
 c143 := by kernel_rfl
 c145 := by kernel_rfl
 c167 := by kernel_rfl
 c168 := by kernel_rfl
 c171 := by kernel_rfl
 c173 := by kernel_rfl
 c175 := by kernel_rfl
 c210 := by kernel_rfl
 c212 := by kernel_rfl
 c213 := by kernel_rfl
 c232 := by kernel_rfl
 c233 := by kernel_rfl }
def Tryz.laysPu14_ren : Go.Shelf.Ren := ⟨fun | 14 => 64 | 16 => 93 | 17 => 85 | 19 => 117 | 20 => 118 | 21 => 110 | 22 => 111 | 23 => 112 | 24 => 113 | 25 => 126 | 27 => 30 | 26 => 127 | 28 => 50 | 29 => 51 | 30 => 69 | 31 => 70 | 32 => 71 | 33 => 72 | 35 => 95 | 34 => 94 | 36 => 96 | 37 => 97 | 38 => 98 | 39 => 119 | 40 => 120 | n => n, fun | 9 => 9 | 3 => 3 | 22 => 41 | 24 => 76 | 25 => 120 | 4 => 4 | 34 => 165 | 5 => 5 | 36 => 36 | 37 => 39 | 0 => 0 | 39 => 166 | 21 => 21 | 44 => 178 | 47 => 109 | 50 => 188 | 48 => 186 | 2 => 2 | 52 => 126 | 55 => 129 | 59 => 150 | 60 => 151 | 20 => 20 | 61 => 152 | 65 => 181 | 66 => 182 | 67 => 86 | n => n, fun | 0 => 5 | 1 => 6 | 2 => 1 | 3 => 7 | 4 => 8 | n => n⟩
theorem Tryz.laysPu14 : Go.Proofs.LaysPu.n14 Tryz.prog Tryz.laysPu14_ren := {
 mixed := by kernel_rfl
 f14 := Tryz.func64.trans (congrArg some (by kernel_rfl))
 f16 := Tryz.func93.trans (congrArg some (by kernel_rfl))
 f17 := Tryz.func85.trans (congrArg some (by kernel_rfl))
 f19 := Tryz.func117.trans (congrArg some (by kernel_rfl))
 f20 := Tryz.func118.trans (congrArg some (by kernel_rfl))
 f21 := Tryz.func110.trans (congrArg some (by kernel_rfl))
 f22 := Tryz.func111.trans (congrArg some (by kernel_rfl))
 f23 := Tryz.func112.trans (congrArg some (by kernel_rfl))
 f24 := Tryz.func113.trans (congrArg some (by kernel_rfl))
 f25 := Tryz.func126.trans (congrArg some (by kernel_rfl))
 f26 := Tryz.func127.trans (congrArg some (by kernel_rfl))
 f27 := Tryz.func30.trans (congrArg some (by kernel_rfl))
 f28 := Tryz.func50.trans (congrArg some (by kernel_rfl))
 f29 := Tryz.func51.trans (congrArg some (by kernel_rfl))
 f30 := Tryz.func69.trans (congrArg some (by kernel_rfl))
 f31 := Tryz.func70.trans (congrArg some (by kernel_rfl))
 f32 := Tryz.func71.trans (congrArg some (by kernel_rfl))
 f33 := Tryz.func72.trans (congrArg some (by kernel_rfl))
 f34 := Tryz.func94.trans (congrArg some (by kernel_rfl))
 f35 := Tryz.func95.trans (congrArg some (by kernel_rfl))
 f36 := Tryz.func96.trans (congrArg some (by kernel_rfl))
 f37 := Tryz.func97.trans (congrArg some (by kernel_rfl))
 f38 := Tryz.func98.trans (congrArg some (by kernel_rfl))
 f39 := Tryz.func119.trans (congrArg some (by kernel_rfl))
 f40 := Tryz.func120.trans (congrArg some (by kernel_rfl))
 t0 := Tryz.underlying0
 a0 := Tryz.isAgg0
 z0 := Tryz.sizeOf0
 v0 := Tryz.zeroValue0
 i0 := by kernel_rfl
 t2 := Tryz.underlying2
 a2 := Tryz.isAgg2
 z2 := Tryz.sizeOf2
 v2 := Tryz.zeroValue2
 i2 := by kernel_rfl
 t3 := Tryz.underlying3
 a3 := Tryz.isAgg3
 z3 := Tryz.sizeOf3
 v3 := Tryz.zeroValue3
 i3 := by kernel_rfl
 t4 := Tryz.underlying4
 a4 := Tryz.isAgg4
 z4 := Tryz.sizeOf4
 v4 := Tryz.zeroValue4
 i4 := by kernel_rfl
 t5 := Tryz.underlying5
 a5 := Tryz.isAgg5
 z5 := Tryz.sizeOf5
 v5 := Tryz.zeroValue5
 i5 := by kernel_rfl
 t9 := Tryz.underlying9
 a9 := Tryz.isAgg9
 z9 := Tryz.sizeOf9
 v9 := Tryz.zeroValue9
 i9 := by kernel_rfl
 t20 := Tryz.underlying20
 a20 := Tryz.isAgg20
 z20 := Tryz.sizeOf20
 v20 := Tryz.zeroValue20
 i20 := by kernel_rfl
 t21 := Tryz.underlying21
 a21 := Tryz.isAgg21
 z21 := Tryz.sizeOf21
 v21 := Tryz.zeroValue21
 i21 := by kernel_rfl
 t22 := Tryz.underlying41
 a22 := Tryz.isAgg41
 z22 := Tryz.sizeOf41
 v22 := Tryz.zeroValue41
 i22 := by kernel_rfl
 t24 := Tryz.underlying76
 a24 := Tryz.isAgg76
 z24 := Tryz.sizeOf76
 v24 := Tryz.zeroValue76
 i24 := by kernel_rfl
 t25 := Tryz.underlying120
 a25 := Tryz.isAgg120
 z25 := Tryz.sizeOf120
 v25 := Tryz.zeroValue120
 i25 := by kernel_rfl
 t34 := Tryz.underlying165
 a34 := Tryz.isAgg165
 z34 := Tryz.sizeOf165
 v34 := Tryz.zeroValue165
 i34 := by kernel_rfl
 c34 := by kernel_rfl
 t36 := Tryz.underlying36
 a36 := Tryz.isAgg36
 z36 := Tryz.sizeOf36
 v36 := Tryz.zeroValue36
 i36 := by kernel_rfl
 t37 := Tryz.underlying39
 a37 := Tryz.isAgg39
 z37 := Tryz.sizeOf39
 v37 := Tryz.zeroValue39
 i37 := by kernel_rfl
 t39 := Tryz.underlying166
 a39 := Tryz.isAgg166
 z39 := Tryz.sizeOf166
 v39 := Tryz.zeroValue166
 i39 := by kernel_rfl
 t44 := Tryz.underlying178
 a44 := Tryz.isAgg178
 z44 := Tryz.sizeOf178
 v44 := Tryz.zeroValue178
 i44 := by kernel_rfl
 t47 := Tryz.underlying109
 a47 := Tryz.isAgg109
 z47 := Tryz.sizeOf109
 v47 := Tryz.zeroValue109
 i47 := by kernel_rfl
 t48 := Tryz.underlying186
 a48 := Tryz.isAgg186
 z48 := Tryz.sizeOf186
 v48 := Tryz.zeroValue186
 i48 := by kernel_rfl
 t50 := Tryz.underlying188
 a50 := Tryz.isAgg188
 z50 := Tryz.sizeOf188
 v50 := Tryz.zeroValue188
 i50 := by kernel_rfl
 t52 := Tryz.underlying126
 a52 := Tryz.isAgg126
 z52 := Tryz.sizeOf126
 v52 := Tryz.zeroValue126
 i52 := by kernel_rfl
 t55 := Tryz.underlying129
 a55 := Tryz.isAgg129
 z55 := Tryz.sizeOf129
 v55 := Tryz.zeroValue129
 i55 := by kernel_rfl
 t59 := Tryz.underlying150
 a59 := Tryz.isAgg150
 z59 := Tryz.sizeOf150
 v59 := Tryz.zeroValue150
 i59 := by kernel_rfl
 t60 := Tryz.underlying151
 a60 := Tryz.isAgg151
 z60 := Tryz.sizeOf151
 v60 := Tryz.zeroValue151
 i60 := by kernel_rfl
 t61 := Tryz.underlying152
 a61 := Tryz.isAgg152
 z61 := Tryz.sizeOf152
 t65 := Tryz.underlying181
 a65 := Tryz.isAgg181
 z65 := Tryz.sizeOf181
 v65 := Tryz.zeroValue181
 i65 := by kernel_rfl
 t66 := Tryz.underlying182
 a66 := Tryz.isAgg182
 z66 := Tryz.sizeOf182
 v66 := Tryz.zeroValue182
 i66 := by kernel_rfl
 t67 := Tryz.underlying86
 a67 := Tryz.isAgg86
 z67 := Tryz.sizeOf86
 v67 := Tryz.zeroValue86
 i67 := by kernel_rfl
 g0 := by kernel_rfl
 m0 := by kernel_rfl
 g1 := by kernel_rfl
 m1 := by kernel_rfl
 g2 := by kernel_rfl
 m2 := by kernel_rfl
 g3 := by kernel_rfl
 m3 := by kernel_rfl
 g4 := by kernel_rfl
 m4 := by kernel_rfl }
def Tryz.lays143_ren : Go.Shelf.Ren := ⟨fun | 143 => 60 | 219 => 81 | 217 => 104 | 225 => 105 | 224 => 106 | 267 => 107 | 266 => 124 | 314 => 125 | n => n, fun | 9 => 9 | 3 => 3 | 4 => 4 | 5 => 5 | 46 => 36 | 146 => 154 | 51 => 151 | n => n, fun | 1 => 4 | n => n⟩
theorem Tryz.lays143 : Go.Proofs.Lays.n143 Tryz.prog Tryz.lays143_ren := {
 mixed := by kernel_rfl
 f143 := Tryz.func60.trans (congrArg some (by kernel_rfl))
 f217 := Tryz.func104.trans (congrArg some (by kernel_rfl))
 f219 := Tryz.func81.trans (congrArg some (by kernel_rfl))
 f224 := Tryz.func106.trans (congrArg some (by kernel_rfl))
 f225 := Tryz.func105.trans (congrArg some (by kernel_rfl))
 f266 := Tryz.func124.trans (congrArg some (by kernel_rfl))
 f267 := Tryz.func107.trans (congrArg some (by kernel_rfl))
 f314 := Tryz.func125.trans (congrArg some (by kernel_rfl))
 t3 := Tryz.underlying3
 a3 := Tryz.isAgg3
 z3 := Tryz.sizeOf3
 v3 := Tryz.zeroValue3
 t4 := Tryz.underlying4
 a4 := Tryz.isAgg4
 z4 := Tryz.sizeOf4
 v4 := Tryz.zeroValue4
 t5 := Tryz.underlying5
 a5 := Tryz.isAgg5
 z5 := Tryz.sizeOf5
 v5 := Tryz.zeroValue5
 t9 := Tryz.underlying9
 a9 := Tryz.isAgg9
 z9 := Tryz.sizeOf9
 v9 := Tryz.zeroValue9
 t46 := Tryz.underlying36
 a46 := Tryz.isAgg36
 z46 := Tryz.sizeOf36
 v46 := Tryz.zeroValue36
 t51 := Tryz.underlying151
 a51 := Tryz.isAgg151
 z51 := Tryz.sizeOf151
 v51 := Tryz.zeroValue151
 t146 := Tryz.underlying154
 a146 := Tryz.isAgg154
 z146 := Tryz.sizeOf154
 v146 := Tryz.zeroValue154
 g1 := by kernel_rfl }
def Tryz.lays138_ren : Go.Shelf.Ren := ⟨fun | 138 => 83 | 195 => 108 | 218 => 109 | 143 => 60 | 219 => 81 | 217 => 104 | 225 => 105 | 224 => 106 | 267 => 107 | 266 => 124 | 314 => 125 | n => n, fun | 9 => 9 | 3 => 3 | 4 => 4 | 5 => 5 | 0 => 0 | 46 => 36 | 146 => 154 | 51 => 151 | n => n, fun | 1 => 4 | n => n⟩
theorem Tryz.lays138 : Go.Proofs.Lays.n138 Tryz.prog Tryz.lays138_ren := {
 mixed := by kernel_rfl
 f138 := Tryz.func83.trans (congrArg some (by kernel_rfl))
 f143 := Tryz.func60.trans (congrArg some (by kernel_rfl))
 f195 := Tryz.func108.trans (congrArg some (by kernel_rfl))
 f217 := Tryz.func104.trans (congrArg some (by kernel_rfl))
 f218 := Tryz.func109.trans (congrArg some (by kernel_rfl))
 f219 := Tryz.func81.trans (congrArg some (by kernel_rfl))
 f224 := Tryz.func106.trans (congrArg some (by kernel_rfl))
 f225 := Tryz.func105.trans (congrArg some (by kernel_rfl))
 f266 := Tryz.func124.trans (congrArg some (by kernel_rfl))
 f267 := Tryz.func107.trans (congrArg some (by kernel_rfl))
 f314 := Tryz.func125.trans (congrArg some (by kernel_rfl))
 t0 := Tryz.underlying0
 a0 := Tryz.isAgg0
 z0 := Tryz.sizeOf0
 v0 := Tryz.zeroValue0
 t3 := Tryz.underlying3
 a3 := Tryz.isAgg3
 z3 := Tryz.sizeOf3
 v3 := Tryz.zeroValue3
 t4 := Tryz.underlying4
 a4 := Tryz.isAgg4
 z4 := Tryz.sizeOf4
 v4 := Tryz.zeroValue4
 t5 := Tryz.underlying5
 a5 := Tryz.isAgg5
 z5 := Tryz.sizeOf5
 v5 := Tryz.zeroValue5
 t9 := Tryz.underlying9
 a9 := Tryz.isAgg9
 z9 := Tryz.sizeOf9
 v9 := Tryz.zeroValue9
 t46 := Tryz.underlying36
 a46 := Tryz.isAgg36
 z46 := Tryz.sizeOf36
 v46 := Tryz.zeroValue36
 t51 := Tryz.underlying151
 a51 := Tryz.isAgg151
 z51 := Tryz.sizeOf151
 v51 := Tryz.zeroValue151
 t146 := Tryz.underlying154
 a146 := Tryz.isAgg154
 z146 := Tryz.sizeOf154
 v146 := Tryz.zeroValue154
 g1 := by kernel_rfl }
def Tryz.lays221_ren : Go.Shelf.Ren := ⟨fun | 221 => 61 | 268 => 82 | 138 => 83 | 143 => 60 | 195 => 108 | 197 => 59 | 218 => 109 | 219 => 81 | 260 => 80 | 217 => 104 | 225 => 105 | 224 => 106 | 267 => 107 | 266 => 124 | 314 => 125 | n => n, fun | 9 => 9 | 3 => 3 | 31 => 61 | 4 => 4 | 0 => 0 | 105 => 113 | 21 => 21 | 5 => 5 | 46 => 36 | 119 => 159 | 139 => 162 | 138 => 161 | 146 => 154 | 51 => 151 | n => n, fun | 1 => 4 | 3 => 2 | 4 => 3 | n => n⟩
theorem Tryz.lays221 : Go.Proofs.Lays.n221 Tryz.prog Tryz.lays221_ren := {
 mixed := by kernel_rfl
 f138 := Tryz.func83.trans (congrArg some (by kernel_rfl))
 f143 := Tryz.func60.trans (congrArg some (by kernel_rfl))
 f195 := Tryz.func108.trans (congrArg some (by kernel_rfl))
 f197 := Tryz.func59.trans (congrArg some (by kernel_rfl))
 f217 := Tryz.func104.trans (congrArg some (by kernel_rfl))
 f218 := Tryz.func109.trans (congrArg some (by kernel_rfl))
 f219 := Tryz.func81.trans (congrArg some (by kernel_rfl))
 f221 := Tryz.func61.trans (congrArg some (by kernel_rfl))
 f224 := Tryz.func106.trans (congrArg some (by kernel_rfl))
 f225 := Tryz.func105.trans (congrArg some (by kernel_rfl))
 f260 := Tryz.func80.trans (congrArg some (by kernel_rfl))
 f266 := Tryz.func124.trans (congrArg some (by kernel_rfl))
 f267 := Tryz.func107.trans (congrArg some (by kernel_rfl))
 f268 := Tryz.func82.trans (congrArg some (by kernel_rfl))
 f314 := Tryz.func125.trans (congrArg some (by kernel_rfl))
 t0 := Tryz.underlying0
 a0 := Tryz.isAgg0
 z0 := Tryz.sizeOf0
 v0 := Tryz.zeroValue0
 t3 := Tryz.underlying3
 a3 := Tryz.isAgg3
 z3 := Tryz.sizeOf3
 v3 := Tryz.zeroValue3
 t4 := Tryz.underlying4
 a4 := Tryz.isAgg4
 z4 := Tryz.sizeOf4
 v4 := Tryz.zeroValue4
 t5 := Tryz.underlying5
 a5 := Tryz.isAgg5
 z5 := Tryz.sizeOf5
 v5 := Tryz.zeroValue5
 t9 := Tryz.underlying9
 a9 := Tryz.isAgg9
 z9 := Tryz.sizeOf9
 v9 := Tryz.zeroValue9
 t21 := Tryz.underlying21
 a21 := Tryz.isAgg21
 z21 := Tryz.sizeOf21
 v21 := Tryz.zeroValue21
 t31 := Tryz.underlying61
 a31 := Tryz.isAgg61
 z31 := Tryz.sizeOf61
 v31 := Tryz.zeroValue61
 t46 := Tryz.underlying36
 a46 := Tryz.isAgg36
 z46 := Tryz.sizeOf36
 v46 := Tryz.zeroValue36
 t51 := Tryz.underlying151
 a51 := Tryz.isAgg151
 z51 := Tryz.sizeOf151
 v51 := Tryz.zeroValue151
 t105 := Tryz.underlying113
 a105 := Tryz.isAgg113
 z105 := Tryz.sizeOf113
 v105 := Tryz.zeroValue113
 t119 := Tryz.underlying159
 a119 := Tryz.isAgg159
 z119 := Tryz.sizeOf159
 t138 := Tryz.underlying161
 a138 := Tryz.isAgg161
 z138 := Tryz.sizeOf161
 v138 := Tryz.zeroValue161
 t139 := Tryz.underlying162
 a139 := Tryz.isAgg162
 z139 := Tryz.sizeOf162
 v139 := Tryz.zeroValue162
 t146 := Tryz.underlying154
 a146 := Tryz.isAgg154
 z146 := Tryz.sizeOf154
 v146 := Tryz.zeroValue154
 g1 := by kernel_rfl
 g3 := by kernel_rfl
 g4 := by kernel_rfl }
def Tryz.lays105_ren : Go.Shelf.Ren := ⟨fun | 105 => 53 | 212 => 74 | 99 => 75 | 165 => 76 | 166 => 29 | 170 => 32 | 169 => 36 | 263 => 99 | 264 => 100 | 206 => 101 | 240 => 49 | 241 => 102 | 276 => 68 | 277 => 121 | n => n, fun | 9 => 9 | 3 => 3 | 4 => 4 | 20 => 20 | 0 => 0 | 46 => 36 | 109 => 131 | 5 => 5 | 72 => 74 | 76 => 77 | 51 => 151 | 146 => 154 | 53 => 41 | 148 => 156 | 70 => 72 | 37 => 39 | 75 => 76 | 127 => 109 | 164 => 124 | 80 => 86 | n => n, fun | n => n⟩
theorem Tryz.lays105 : Go.Proofs.Lays.n105 Tryz.prog Tryz.lays105_ren := {
 mixed := by kernel_rfl
 f99 := Tryz.func75.trans (congrArg some (by kernel_rfl))
 f105 := Tryz.func53.trans (congrArg some (by kernel_rfl))
 f165 := Tryz.func76.trans (congrArg some (by kernel_rfl))
 f166 := Tryz.func29.trans (congrArg some (by kernel_rfl))
 f169 := Tryz.func36.trans (congrArg some (by kernel_rfl))
 f170 := Tryz.func32.trans (congrArg some (by kernel_rfl))
 f206 := Tryz.func101.trans (congrArg some (by kernel_rfl))
 f212 := Tryz.func74.trans (congrArg some (by kernel_rfl))
 f240 := Tryz.func49.trans (congrArg some (by kernel_rfl))
 f241 := Tryz.func102.trans (congrArg some (by kernel_rfl))
 f263 := Tryz.func99.trans (congrArg some (by kernel_rfl))
 f264 := Tryz.func100.trans (congrArg some (by kernel_rfl))
 f276 := Tryz.func68.trans (congrArg some (by kernel_rfl))
 f277 := Tryz.func121.trans (congrArg some (by kernel_rfl))
 t0 := Tryz.underlying0
 a0 := Tryz.isAgg0
 z0 := Tryz.sizeOf0
 v0 := Tryz.zeroValue0
 t3 := Tryz.underlying3
 a3 := Tryz.isAgg3
 z3 := Tryz.sizeOf3
 v3 := Tryz.zeroValue3
 t4 := Tryz.underlying4
 a4 := Tryz.isAgg4
 z4 := Tryz.sizeOf4
 v4 := Tryz.zeroValue4
 t5 := Tryz.underlying5
 a5 := Tryz.isAgg5
 z5 := Tryz.sizeOf5
 v5 := Tryz.zeroValue5
 t9 := Tryz.underlying9
 a9 := Tryz.isAgg9
 z9 := Tryz.sizeOf9
 v9 := Tryz.zeroValue9
 t20 := Tryz.underlying20
 a20 := Tryz.isAgg20
 z20 := Tryz.sizeOf20
 v20 := Tryz.zeroValue20
 t37 := Tryz.underlying39
 a37 := Tryz.isAgg39
 z37 := Tryz.sizeOf39
 v37 := Tryz.zeroValue39
 t46 := Tryz.underlying36
 a46 := Tryz.isAgg36
 z46 := Tryz.sizeOf36
 v46 := Tryz.zeroValue36
 t51 := Tryz.underlying151
 a51 := Tryz.isAgg151
 z51 := Tryz.sizeOf151
 v51 := Tryz.zeroValue151
 t53 := Tryz.underlying41
 a53 := Tryz.isAgg41
 z53 := Tryz.sizeOf41
 v53 := Tryz.zeroValue41
 t70 := Tryz.underlying72
 a70 := Tryz.isAgg72
 z70 := Tryz.sizeOf72
 v70 := Tryz.zeroValue72
 t72 := Tryz.underlying74
 a72 := Tryz.isAgg74
 z72 := Tryz.sizeOf74
 v72 := Tryz.zeroValue74
 t75 := Tryz.underlying76
 a75 := Tryz.isAgg76
 z75 := Tryz.sizeOf76
 v75 := Tryz.zeroValue76
 t76 := Tryz.underlying77
 a76 := Tryz.isAgg77
 z76 := Tryz.sizeOf77
 v76 := Tryz.zeroValue77
 t109 := Tryz.underlying131
 a109 := Tryz.isAgg131
 z109 := Tryz.sizeOf131
 v109 := Tryz.zeroValue131
 t127 := Tryz.underlying109
 a127 := Tryz.isAgg109
 z127 := Tryz.sizeOf109
 v127 := Tryz.zeroValue109
 t146 := Tryz.underlying154
 a146 := Tryz.isAgg154
 z146 := Tryz.sizeOf154
 v146 := Tryz.zeroValue154
 t148 := Tryz.underlying156
 a148 := Tryz.isAgg156
 z148 := Tryz.sizeOf156
 v148 := Tryz.zeroValue156
 t164 := Tryz.underlying124
 a164 := Tryz.isAgg124
 z164 := Tryz.sizeOf124
 v164 := Tryz.zeroValue124 }
open Go.Lib in
theorem Tryz.internal_strconv_small (i : Nat) (h : i < 100) (w : World) :
  Calls Tryz.prog 69 #[.int .i64 i] w fun e w' => e = .returned (.string ⟨(Lib.decDigits i).toArray⟩) ∧ w' = w := Any.internal_strconv_small Tryz.lays283 i h w
open Go.Lib in
theorem Tryz.internal_strconv_numDigits (u : Nat) (h1 : 1 ≤ u) (h2 : u < 18446744073709551616) (w : World) (htab : Lib.TabIs Tryz.prog w "internal/strconv.uint64pow10" .u64 Lib.pow10Tab) :
  Calls Tryz.prog 70 #[.int .u64 u] w fun e w' => e = .returned (.int .i64 (Lib.nDigits u)) ∧ w' = w := Any.internal_strconv_numDigits Tryz.laysM284 u h1 h2 w htab
open Go.RowKit Go.Sort Go.Lib in
theorem Tryz.internal_strconv_formatBase10 (blk off cap : Nat) (u : Nat) (d : Array UInt8) (w : World) (hH : Holds (fun (b : UInt8) => Value.int .u8 (b.toNat : Int)) w blk off d) (hu : u < 10 ^ d.size) (hu64 : u < 18446744073709551616) (hsz : d.size < 4611686018427387904) :
  Calls Tryz.prog 71 #[.slice (some ⟨blk, off, none⟩) d.size cap, .int .u64 u] w fun e w' =>
   e = .returned (.tuple #[]) ∧ ∃ (n v' : Nat) (dk : Array UInt8), w' = (putRow (fun (b : UInt8) => Value.int .u8 (b.toNat : Int)) w blk off dk).drewN n ∧ FmtInv d.size u 0 v' dk := Any.internal_strconv_formatBase10 Tryz.lays285 blk off cap u d w hH hu hu64 hsz
open Go.RowKit Go.Sort Go.Lib in
theorem Tryz.strconv_Itoa (n : Int) (h0 : -9223372036854775808 ≤ n) (h1 : n ≤ 9223372036854775807) (w : World) (htab : Lib.TabIs Tryz.prog w "internal/strconv.uint64pow10" .u64 Lib.pow10Tab) :
  Calls Tryz.prog 30 #[.int .i64 n] w fun e w' => e = .returned (.string ⟨(Lib.itoa n).toArray⟩) ∧ ∃ k os, w' = grow (w.drewN k) os := Any.strconv_Itoa Tryz.laysM171 n h0 h1 w htab
open Go.RowKit Go.Sort Go.Lib in
theorem Tryz.strconv_FormatInt_10 (n : Int) (h0 : -9223372036854775808 ≤ n) (h1 : n ≤ 9223372036854775807) (w : World) (htab : Lib.TabIs Tryz.prog w "internal/strconv.uint64pow10" .u64 Lib.pow10Tab) :
  Calls Tryz.prog 33 #[.int .i64 n, .int .i64 10] w fun e w' => e = .returned (.string ⟨(Lib.itoa n).toArray⟩) ∧ ∃ k os, w' = grow (w.drewN k) os := Any.strconv_FormatInt_10 Tryz.laysM173 n h0 h1 w htab
open Go.RowKit in
theorem Tryz.internal_strconv_lower (c : Int) (w : World) :
  Calls Tryz.prog 117 #[.int .u8 c] w fun e w' => e = .returned (.int .u8 (bits .or .u8 c 32)) ∧ w' = w := Any.internal_strconv_lower Tryz.lays321 c w
open Go.RowKit in
theorem Tryz.strconv_ParseInt_10_at64_ok (s : ByteArray) (hmax : s.size ≤ 9223372036854775806) (v : Int) (h : Lib.parseIntB 64 s.data.toList = .ok v) (w : World) :
  Calls Tryz.prog 62 #[.string s, .int .i64 10, .int .i64 64] w fun e w' => e = .returned (.tuple #[.int .i64 v, .nilIface]) ∧ (w' = w ∨ ∃ t, w' = Lib.bytesWorld w 5 t) := Any.strconv_ParseInt_10_at64_ok Tryz.laysC174 s hmax v h w
open Go.RowKit in
theorem Tryz.strconv_ParseInt_10_at64_syntax (s : ByteArray) (hlim : s.size ≤ 281474976710656) (h : Lib.parseIntB 64 s.data.toList = .«syntax») (ev : Value) (w : World) (hv : w.cell? ⟨5, 0, none⟩ = some ev) (hev : ev = .nilIface ∨ ∃ te pe, ev = .iface te pe) :
  Calls Tryz.prog 62 #[.string s, .int .i64 10, .int .i64 64] w fun e w' => ∃ N, e = .returned (.tuple #[.int .i64 (0), .iface 166 (.pointer (some ⟨N, 0, none⟩))]) ∧ w.heap.size ≤ N ∧ w'.heap[N]? = some (.cells #[.string ⟨#[80, 97, 114, 115, 101, 73, 110, 116]⟩, .string s, ev] 178 (0, 0)) ∧ Below w.heap.size w w' := Any.strconv_ParseInt_10_at64_syntax Tryz.laysC174 s hlim h ev w hv hev
open Go.RowKit in
theorem Tryz.strconv_ParseInt_10_at64_range (s : ByteArray) (hlim : s.size ≤ 281474976710656) (h : Lib.parseIntB 64 s.data.toList = .range) (ev : Value) (w : World) (hv : w.cell? ⟨6, 0, none⟩ = some ev) (hev : ev = .nilIface ∨ ∃ te pe, ev = .iface te pe) :
  Calls Tryz.prog 62 #[.string s, .int .i64 10, .int .i64 64] w fun e w' => ∃ N, e = .returned (.tuple #[.int .i64 (Lib.intSat 64 s.data.toList), .iface 166 (.pointer (some ⟨N, 0, none⟩))]) ∧ w.heap.size ≤ N ∧ w'.heap[N]? = some (.cells #[.string ⟨#[80, 97, 114, 115, 101, 73, 110, 116]⟩, .string s, ev] 178 (0, 0)) ∧ Below w.heap.size w w' := Any.strconv_ParseInt_10_at64_range Tryz.laysC174 s hlim h ev w hv hev
open Go.RowKit in
theorem Tryz.strconv_ParseUint_10_at64_ok (s : ByteArray) (hmax : s.size ≤ 9223372036854775806) (u : Nat) (h : Lib.parseUintB 64 s.data.toList = .ok u) (w : World) :
  Calls Tryz.prog 64 #[.string s, .int .i64 10, .int .i64 64] w fun e w' => e = .returned (.tuple #[.int .u64 u, .nilIface]) ∧ (w' = w ∨ w' = Lib.bytesWorld w 5 s) := Any.strconv_ParseUint_10_at64_ok Tryz.laysPu14 s hmax u h w
open Go.RowKit in
theorem Tryz.strconv_ParseUint_10_at64_syntax (s : ByteArray) (hlim : s.size ≤ 281474976710656) (h : Lib.parseUintB 64 s.data.toList = .«syntax») (ev : Value) (w : World) (hv : w.cell? ⟨5, 0, none⟩ = some ev) (hev : ev = .nilIface ∨ ∃ te pe, ev = .iface te pe) :
  Calls Tryz.prog 64 #[.string s, .int .i64 10, .int .i64 64] w fun e w' => ∃ N, e = .returned (.tuple #[.int .u64 0, .iface 166 (.pointer (some ⟨N, 0, none⟩))]) ∧ w.heap.size ≤ N ∧ w'.heap[N]? = some (.cells #[.string ⟨#[80, 97, 114, 115, 101, 85, 105, 110, 116]⟩, .string s, ev] 178 (0, 0)) ∧ Below w.heap.size w w' := Any.strconv_ParseUint_10_at64_syntax Tryz.laysPu14 s hlim h ev w hv hev
open Go.RowKit in
theorem Tryz.strconv_ParseUint_10_at64_range (s : ByteArray) (hlim : s.size ≤ 281474976710656) (h : Lib.parseUintB 64 s.data.toList = .range) (ev : Value) (w : World) (hv : w.cell? ⟨6, 0, none⟩ = some ev) (hev : ev = .nilIface ∨ ∃ te pe, ev = .iface te pe) :
  Calls Tryz.prog 64 #[.string s, .int .i64 10, .int .i64 64] w fun e w' => ∃ N, e = .returned (.tuple #[.int .u64 18446744073709551615, .iface 166 (.pointer (some ⟨N, 0, none⟩))]) ∧ w.heap.size ≤ N ∧ w'.heap[N]? = some (.cells #[.string ⟨#[80, 97, 114, 115, 101, 85, 105, 110, 116]⟩, .string s, ev] 178 (0, 0)) ∧ Below w.heap.size w w' := Any.strconv_ParseUint_10_at64_range Tryz.laysPu14 s hlim h ev w hv hev
open Go.RowKit Go.Lib in
theorem Tryz.strings_Index_one (s : ByteArray) (c : UInt8) (w : World) :
  Calls Tryz.prog 60 #[.string s, .string ⟨#[c]⟩] w fun e w' => e = .returned (.int .i64 (Lib.indexByte s.data.toList c)) ∧ w' = w := Any.strings_Index_one Tryz.lays143 s c w
open Go.RowKit Go.Lib in
theorem Tryz.strings_Count_one (s : ByteArray) (c : UInt8) (w : World) :
  Calls Tryz.prog 83 #[.string s, .string ⟨#[c]⟩] w fun e w' => e = .returned (.int .i64 (Lib.countByte s.data.toList c)) ∧ w' = w := Any.strings_Count_one Tryz.lays138 s c w
theorem Tryz.Builder_Extra_105 : Builder.Extra Tryz.prog Tryz.lays105_ren := {
 sizeBuilder := by kernel_rfl
 liesBuilder := by kernel_rfl
 t5 := Tryz.underlying5
 a5 := Tryz.isAgg5
 z5 := Tryz.sizeOf5
 v5 := Tryz.zeroValue5
 infoByte := by kernel_rfl
 cellsByte := by kernel_rfl
 sizeByte := by kernel_rfl
 neB5 := by decide }
open Go.RowKit Go.Lib in
theorem Tryz.strings_Repeat (s : ByteArray) (c : Nat) (w : World) (hc : c ≤ 9223372036854775807) (hlen : s.size * c ≤ 140737488355328) :
  Calls Tryz.prog 53 #[.string s, .int .i64 c] w fun e w' => e = .returned (.string ⟨(Lib.repeatL s.data.toList c).toArray⟩) ∧ Below w.heap.size w w' := Any.strings_Repeat Tryz.lays105 Tryz.Builder_Extra_105 s c w hc hlen
end Go.Proofs
