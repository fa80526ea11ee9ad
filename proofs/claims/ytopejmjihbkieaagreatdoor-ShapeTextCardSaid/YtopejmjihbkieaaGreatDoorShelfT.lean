/-
  DERIVED: THE SHELF's CONTRACTS AT THIS DUMP, IN PLAIN WORDS (tools/lay-plain.mjs out of 'TryzShelfA.lean', which tools/lay-shelf.mjs wrote): THE SAME DECLARATIONS UNDER THE SAME NAMES: 'import', 'namespace', 'open', 'def', 'theorem' AND NOTHING ELSE: no command of the shelf's: FOR A HAND-IN. Each laying: the table of numbers ('.._ren') and one theorem, a field a fact of the dump's own or the kernel's comparison; each contract: ONE APPLICATION.
-/
import Derived.Shelf.Strings.Builder1
import Derived.Shelf.Strings.Builder2
import Derived.Shelf.Strings.OnBuilder
import Derived.Shelf.Strings.Trim
import Derived.Shelf.Small.Utf8
import Derived.Shelf.Small.Bits
import Derived.Shelf.Small.Strs
import Derived.Shelf.Utf8.RuneCount
import Derived.Shelf.Strconv.Atoi
import Derived.Shelf.Strconv.Itoa0
import Derived.Shelf.Strconv.Itoa1
import Derived.Shelf.LaysM
import Derived.Shelf.Strconv.Itoa2
import Derived.Shelf.Strconv.Itoa3
import Derived.Shelf.Strconv.AtoiErrFast
import Derived.Shelf.Strconv.ParseIntEmpty
import Derived.Shelf.Strconv.AtoiFail
import Derived.Shelf.Strconv.Clone
import Derived.Shelf.Strconv.SyntaxError
import Derived.Shelf.LaysC
import Derived.Shelf.Strconv.ToError
import Derived.Shelf.Strconv.Lower
import Derived.Shelf.Strconv.ParseUint10
import Derived.Shelf.Strconv.ParseUint10Empty
import Derived.Shelf.Strconv.ParseUint10Any
import Derived.Shelf.Strconv.ParseInt10
import Derived.Shelf.Strconv.AtoiLong
import Derived.Shelf.Strconv.AtoiInnerAll
import Derived.Shelf.Strconv.RangeError
import Derived.Shelf.Strconv.ToErrorRange
import Derived.Shelf.Strconv.AtoiAll
import Derived.Shelf.Strconv.ErrVarAll
import Derived.Shelf.Strings.Search1
import Derived.Shelf.Strings.Search2
import Derived.Shelf.Strings.Search3
import Derived.Shelf.Strings.Cut
import Derived.Shelf.Strings.Count
import Derived.Shelf.Strings.Shaped
import Derived.Shelf.Sort.Plain
import Derived.Shelf.Strings.Split
import Derived.Shelf.Strings.SplitShaped
import Derived.Shelf.Unicode.Decode
import Derived.Shelf.Strings.Runes
import Derived.Shelf.Strings.RuneCount
import Derived.Shelf.Strings.IndexAny
import Derived.Shelf.Strings.AsciiSet
import Derived.Shelf.Strings.IndexAnyAll
import Derived.Shelf.Strings.Explode
import Derived.Shelf.Bits.Mul64
import Derived.Shelf.Unicode.DecodeSlow
import Derived.Shelf.Unicode.DecodeAny
import Derived.Shelf.Unicode.DecodeLast
import Derived.Shelf.Slices.CompactS
import Derived.Shelf.Slices.Cells
import Derived.Shelf.Slices.In.SortNone
import Derived.Test.YtopejmjihbkieaaGreatDoorProg
set_option linter.unusedSimpArgs false
set_option linter.unusedVariables false
namespace Go.Proofs
open Go.Shelf
def Tryz.lays156_ren : Go.Shelf.Ren := ⟨fun | 156 => 176 | 165 => 224 | 166 => 225 | 169 => 226 | 240 => 273 | 241 => 274 | 276 => 301 | 277 => 302 | n => n, fun | 31 => 84 | 9 => 9 | 3 => 3 | 4 => 4 | 0 => 0 | 20 => 20 | 72 => 237 | 76 => 162 | 70 => 235 | 37 => 164 | 75 => 161 | 127 => 273 | 164 => 302 | 5 => 5 | 80 => 239 | n => n, fun | n => n⟩
theorem Tryz.lays156 : Go.Proofs.Lays.n156 Tryz.prog Tryz.lays156_ren := {
  mixed := by kernel_rfl
  f156 := Tryz.func176.trans (congrArg some (by kernel_rfl))
  f165 := Tryz.func224.trans (congrArg some (by kernel_rfl))
  f166 := Tryz.func225.trans (congrArg some (by kernel_rfl))
  f169 := Tryz.func226.trans (congrArg some (by kernel_rfl))
  f240 := Tryz.func273.trans (congrArg some (by kernel_rfl))
  f241 := Tryz.func274.trans (congrArg some (by kernel_rfl))
  f276 := Tryz.func301.trans (congrArg some (by kernel_rfl))
  f277 := Tryz.func302.trans (congrArg some (by kernel_rfl))
  t0 := Tryz.underlying0
  a0 := Tryz.isAgg0
  z0 := Tryz.sizeOf0
  v0 := Tryz.zeroValue0
  t3 := Tryz.underlying3
  a3 := Tryz.isAgg3
  z3 := Tryz.sizeOf3
  v3 := Tryz.zeroValue3
  t4 := Tryz.underlying4
  a4 := Tryz.isAgg4
  z4 := Tryz.sizeOf4
  v4 := Tryz.zeroValue4
  t9 := Tryz.underlying9
  a9 := Tryz.isAgg9
  z9 := Tryz.sizeOf9
  v9 := Tryz.zeroValue9
  t20 := Tryz.underlying20
  a20 := Tryz.isAgg20
  z20 := Tryz.sizeOf20
  v20 := Tryz.zeroValue20
  t31 := Tryz.underlying84
  a31 := Tryz.isAgg84
  z31 := Tryz.sizeOf84
  v31 := Tryz.zeroValue84
  t37 := Tryz.underlying164
  a37 := Tryz.isAgg164
  z37 := Tryz.sizeOf164
  v37 := Tryz.zeroValue164
  t70 := Tryz.underlying235
  a70 := Tryz.isAgg235
  z70 := Tryz.sizeOf235
  v70 := Tryz.zeroValue235
  t72 := Tryz.underlying237
  a72 := Tryz.isAgg237
  z72 := Tryz.sizeOf237
  v72 := Tryz.zeroValue237
  t75 := Tryz.underlying161
  a75 := Tryz.isAgg161
  z75 := Tryz.sizeOf161
  v75 := Tryz.zeroValue161
  t76 := Tryz.underlying162
  a76 := Tryz.isAgg162
  z76 := Tryz.sizeOf162
  v76 := Tryz.zeroValue162
  t127 := Tryz.underlying273
  a127 := Tryz.isAgg273
  z127 := Tryz.sizeOf273
  v127 := Tryz.zeroValue273
  t164 := Tryz.underlying302
  a164 := Tryz.isAgg302
  z164 := Tryz.sizeOf302
  v164 := Tryz.zeroValue302 }
theorem Tryz.Builder_Extra_156 : Builder.Extra Tryz.prog Tryz.lays156_ren := {
  sizeBuilder := by kernel_rfl
  liesBuilder := by kernel_rfl
  t5 := Tryz.underlying5
  a5 := Tryz.isAgg5
  z5 := Tryz.sizeOf5
  v5 := Tryz.zeroValue5
  infoByte := by kernel_rfl
  cellsByte := by kernel_rfl
  sizeByte := by kernel_rfl
  neB5 := by decide }
def Tryz.lays160_ren : Go.Shelf.Ren := ⟨fun | 160 => 99 | 232 => 161 | 231 => 160 | 227 => 162 | 234 => 164 | 233 => 163 | 236 => 166 | 235 => 165 | 228 => 212 | 271 => 221 | 151 => 220 | 197 => 219 | 120 => 271 | 152 => 210 | 260 => 270 | 137 => 259 | 119 => 260 | 224 => 261 | 225 => 262 | 217 => 293 | 266 => 308 | n => n, fun | 9 => 9 | 4 => 4 | 3 => 3 | 5 => 5 | 117 => 171 | 116 => 170 | 0 => 0 | 124 => 174 | 21 => 21 | 105 => 230 | 46 => 215 | 119 => 298 | 139 => 301 | 138 => 300 | n => n, fun | 3 => 3 | 4 => 4 | n => n⟩
theorem Tryz.lays160 : Go.Proofs.Lays.n160 Tryz.prog Tryz.lays160_ren := {
  mixed := by kernel_rfl
  f119 := Tryz.func260.trans (congrArg some (by kernel_rfl))
  f120 := Tryz.func271.trans (congrArg some (by kernel_rfl))
  f137 := Tryz.func259.trans (congrArg some (by kernel_rfl))
  f151 := Tryz.func220.trans (congrArg some (by kernel_rfl))
  f152 := Tryz.func210.trans (congrArg some (by kernel_rfl))
  f160 := Tryz.func99.trans (congrArg some (by kernel_rfl))
  f197 := Tryz.func219.trans (congrArg some (by kernel_rfl))
  f217 := Tryz.func293.trans (congrArg some (by kernel_rfl))
  f224 := Tryz.func261.trans (congrArg some (by kernel_rfl))
  f225 := Tryz.func262.trans (congrArg some (by kernel_rfl))
  f227 := Tryz.func162.trans (congrArg some (by kernel_rfl))
  f228 := Tryz.func212.trans (congrArg some (by kernel_rfl))
  f231 := Tryz.func160.trans (congrArg some (by kernel_rfl))
  f232 := Tryz.func161.trans (congrArg some (by kernel_rfl))
  f233 := Tryz.func163.trans (congrArg some (by kernel_rfl))
  f234 := Tryz.func164.trans (congrArg some (by kernel_rfl))
  f235 := Tryz.func165.trans (congrArg some (by kernel_rfl))
  f236 := Tryz.func166.trans (congrArg some (by kernel_rfl))
  f260 := Tryz.func270.trans (congrArg some (by kernel_rfl))
  f266 := Tryz.func308.trans (congrArg some (by kernel_rfl))
  f271 := Tryz.func221.trans (congrArg some (by kernel_rfl))
  t0 := Tryz.underlying0
  a0 := Tryz.isAgg0
  z0 := Tryz.sizeOf0
  v0 := Tryz.zeroValue0
  t3 := Tryz.underlying3
  a3 := Tryz.isAgg3
  z3 := Tryz.sizeOf3
  v3 := Tryz.zeroValue3
  t4 := Tryz.underlying4
  a4 := Tryz.isAgg4
  z4 := Tryz.sizeOf4
  v4 := Tryz.zeroValue4
  t5 := Tryz.underlying5
  a5 := Tryz.isAgg5
  z5 := Tryz.sizeOf5
  v5 := Tryz.zeroValue5
  t9 := Tryz.underlying9
  a9 := Tryz.isAgg9
  z9 := Tryz.sizeOf9
  v9 := Tryz.zeroValue9
  t21 := Tryz.underlying21
  a21 := Tryz.isAgg21
  z21 := Tryz.sizeOf21
  v21 := Tryz.zeroValue21
  t46 := Tryz.underlying215
  a46 := Tryz.isAgg215
  z46 := Tryz.sizeOf215
  v46 := Tryz.zeroValue215
  t105 := Tryz.underlying230
  a105 := Tryz.isAgg230
  z105 := Tryz.sizeOf230
  v105 := Tryz.zeroValue230
  t116 := Tryz.underlying170
  a116 := Tryz.isAgg170
  z116 := Tryz.sizeOf170
  t117 := Tryz.underlying171
  a117 := Tryz.isAgg171
  z117 := Tryz.sizeOf171
  v117 := Tryz.zeroValue171
  t119 := Tryz.underlying298
  a119 := Tryz.isAgg298
  z119 := Tryz.sizeOf298
  t124 := Tryz.underlying174
  a124 := Tryz.isAgg174
  z124 := Tryz.sizeOf174
  v124 := Tryz.zeroValue174
  t138 := Tryz.underlying300
  a138 := Tryz.isAgg300
  z138 := Tryz.sizeOf300
  v138 := Tryz.zeroValue300
  t139 := Tryz.underlying301
  a139 := Tryz.isAgg301
  z139 := Tryz.sizeOf301
  v139 := Tryz.zeroValue301
  g3 := by kernel_rfl
  g4 := by kernel_rfl }
def Tryz.laysM171_ren : Go.Shelf.Ren := ⟨fun | 171 => 150 | 243 => 218 | 246 => 269 | 283 => 297 | 284 => 298 | 285 => 299 | 286 => 300 | 129 => 251 | 317 => 311 | 318 => 312 | 319 => 313 | 320 => 314 | 337 => 317 | 338 => 318 | n => n, fun | 3 => 3 | 9 => 9 | 2 => 2 | 4 => 4 | 171 => 294 | 0 => 0 | 53 => 218 | 37 => 164 | 5 => 5 | 173 => 296 | 212 => 314 | 51 => 253 | 20 => 20 | 213 => 315 | 46 => 215 | 232 => 319 | 233 => 320 | n => n, fun | 17 => 5 | 18 => 6 | 19 => 7 | n => n⟩
theorem Tryz.laysM171 : Go.Proofs.LaysM.n171 Tryz.prog Tryz.laysM171_ren := {
  mixed := by kernel_rfl
  f129 := Tryz.func251.trans (congrArg some (by kernel_rfl))
  f171 := Tryz.func150.trans (congrArg some (by kernel_rfl))
  f243 := Tryz.func218.trans (congrArg some (by kernel_rfl))
  f246 := Tryz.func269.trans (congrArg some (by kernel_rfl))
  f283 := Tryz.func297.trans (congrArg some (by kernel_rfl))
  f284 := Tryz.func298.trans (congrArg some (by kernel_rfl))
  f285 := Tryz.func299.trans (congrArg some (by kernel_rfl))
  f286 := Tryz.func300.trans (congrArg some (by kernel_rfl))
  f317 := Tryz.func311.trans (congrArg some (by kernel_rfl))
  f318 := Tryz.func312.trans (congrArg some (by kernel_rfl))
  f319 := Tryz.func313.trans (congrArg some (by kernel_rfl))
  f320 := Tryz.func314.trans (congrArg some (by kernel_rfl))
  f337 := Tryz.func317.trans (congrArg some (by kernel_rfl))
  f338 := Tryz.func318.trans (congrArg some (by kernel_rfl))
  t0 := Tryz.underlying0
  a0 := Tryz.isAgg0
  z0 := Tryz.sizeOf0
  v0 := Tryz.zeroValue0
  t2 := Tryz.underlying2
  a2 := Tryz.isAgg2
  z2 := Tryz.sizeOf2
  v2 := Tryz.zeroValue2
  t3 := Tryz.underlying3
  a3 := Tryz.isAgg3
  z3 := Tryz.sizeOf3
  v3 := Tryz.zeroValue3
  t4 := Tryz.underlying4
  a4 := Tryz.isAgg4
  z4 := Tryz.sizeOf4
  v4 := Tryz.zeroValue4
  t5 := Tryz.underlying5
  a5 := Tryz.isAgg5
  z5 := Tryz.sizeOf5
  v5 := Tryz.zeroValue5
  t9 := Tryz.underlying9
  a9 := Tryz.isAgg9
  z9 := Tryz.sizeOf9
  v9 := Tryz.zeroValue9
  t20 := Tryz.underlying20
  a20 := Tryz.isAgg20
  z20 := Tryz.sizeOf20
  v20 := Tryz.zeroValue20
  t37 := Tryz.underlying164
  a37 := Tryz.isAgg164
  z37 := Tryz.sizeOf164
  v37 := Tryz.zeroValue164
  t46 := Tryz.underlying215
  a46 := Tryz.isAgg215
  z46 := Tryz.sizeOf215
  v46 := Tryz.zeroValue215
  t51 := Tryz.underlying253
  a51 := Tryz.isAgg253
  z51 := Tryz.sizeOf253
  v51 := Tryz.zeroValue253
  t53 := Tryz.underlying218
  a53 := Tryz.isAgg218
  z53 := Tryz.sizeOf218
  v53 := Tryz.zeroValue218
  t171 := Tryz.underlying294
  a171 := Tryz.isAgg294
  z171 := Tryz.sizeOf294
  v171 := Tryz.zeroValue294
  t173 := Tryz.underlying296
  a173 := Tryz.isAgg296
  z173 := Tryz.sizeOf296
  v173 := Tryz.zeroValue296
  t212 := Tryz.underlying314
  a212 := Tryz.isAgg314
  z212 := Tryz.sizeOf314
  v212 := Tryz.zeroValue314
  t213 := Tryz.underlying315
  a213 := Tryz.isAgg315
  z213 := Tryz.sizeOf315
  t232 := Tryz.underlying319
  a232 := Tryz.isAgg319
  z232 := Tryz.sizeOf319
  v232 := Tryz.zeroValue319
  t233 := Tryz.underlying320
  a233 := Tryz.isAgg320
  z233 := Tryz.sizeOf320
  v233 := Tryz.zeroValue320
  g17 := by kernel_rfl
  g18 := by kernel_rfl
  g19 := by kernel_rfl
  i0 := by kernel_rfl
  i2 := by kernel_rfl
  i3 := by kernel_rfl
  i4 := by kernel_rfl
  i5 := by kernel_rfl
  i9 := by kernel_rfl
  i20 := by kernel_rfl
  i37 := by kernel_rfl
  i46 := by kernel_rfl
  i51 := by kernel_rfl
  i53 := by kernel_rfl
  i171 := by kernel_rfl
  i173 := by kernel_rfl
  i212 := by kernel_rfl
  i232 := by kernel_rfl
  i233 := by kernel_rfl
  m17 := by kernel_rfl
  m18 := by kernel_rfl
  m19 := by kernel_rfl }
def Tryz.laysC172_ren : Go.Shelf.Ren := ⟨fun | 172 => 149 | 244 => 216 | 245 => 217 | 247 => 264 | 279 => 265 | 280 => 266 | 281 => 267 | 282 => 268 | 287 => 294 | 316 => 295 | 171 => 150 | 205 => 296 | 321 => 309 | 322 => 310 | 243 => 218 | 246 => 269 | 283 => 297 | 284 => 298 | 285 => 299 | 286 => 300 | 129 => 251 | 317 => 311 | 318 => 312 | 319 => 313 | 320 => 314 | 337 => 317 | 338 => 318 | n => n, fun | 9 => 9 | 3 => 3 | 75 => 161 | 76 => 162 | 4 => 4 | 5 => 5 | 167 => 266 | 37 => 164 | 0 => 0 | 85 => 267 | 2 => 2 | 168 => 269 | 53 => 218 | 175 => 288 | 46 => 215 | 210 => 292 | 127 => 273 | 145 => 312 | 143 => 310 | 21 => 21 | 171 => 294 | 173 => 296 | 212 => 314 | 51 => 253 | 20 => 20 | 213 => 315 | 232 => 319 | 233 => 320 | 80 => 239 | n => n, fun | 15 => 1 | 16 => 2 | 17 => 5 | 18 => 6 | 19 => 7 | n => n⟩
theorem Tryz.laysC172 : Go.Proofs.LaysC.n172 Tryz.prog Tryz.laysC172_ren := {
  mixed := by kernel_rfl
  f129 := Tryz.func251.trans (congrArg some (by kernel_rfl))
  f171 := Tryz.func150.trans (congrArg some (by kernel_rfl))
  f172 := Tryz.func149.trans (congrArg some (by kernel_rfl))
  f205 := Tryz.func296.trans (congrArg some (by kernel_rfl))
  f243 := Tryz.func218.trans (congrArg some (by kernel_rfl))
  f244 := Tryz.func216.trans (congrArg some (by kernel_rfl))
  f245 := Tryz.func217.trans (congrArg some (by kernel_rfl))
  f246 := Tryz.func269.trans (congrArg some (by kernel_rfl))
  f247 := Tryz.func264.trans (congrArg some (by kernel_rfl))
  f279 := Tryz.func265.trans (congrArg some (by kernel_rfl))
  f280 := Tryz.func266.trans (congrArg some (by kernel_rfl))
  f281 := Tryz.func267.trans (congrArg some (by kernel_rfl))
  f282 := Tryz.func268.trans (congrArg some (by kernel_rfl))
  f283 := Tryz.func297.trans (congrArg some (by kernel_rfl))
  f284 := Tryz.func298.trans (congrArg some (by kernel_rfl))
  f285 := Tryz.func299.trans (congrArg some (by kernel_rfl))
  f286 := Tryz.func300.trans (congrArg some (by kernel_rfl))
  f287 := Tryz.func294.trans (congrArg some (by kernel_rfl))
  f316 := Tryz.func295.trans (congrArg some (by kernel_rfl))
  f317 := Tryz.func311.trans (congrArg some (by kernel_rfl))
  f318 := Tryz.func312.trans (congrArg some (by kernel_rfl))
  f319 := Tryz.func313.trans (congrArg some (by kernel_rfl))
  f320 := Tryz.func314.trans (congrArg some (by kernel_rfl))
  f321 := Tryz.func309.trans (congrArg some (by kernel_rfl))
  f322 := Tryz.func310.trans (congrArg some (by kernel_rfl))
  f337 := Tryz.func317.trans (congrArg some (by kernel_rfl))
  f338 := Tryz.func318.trans (congrArg some (by kernel_rfl))
  t0 := Tryz.underlying0
  a0 := Tryz.isAgg0
  z0 := Tryz.sizeOf0
  v0 := Tryz.zeroValue0
  t2 := Tryz.underlying2
  a2 := Tryz.isAgg2
  z2 := Tryz.sizeOf2
  v2 := Tryz.zeroValue2
  t3 := Tryz.underlying3
  a3 := Tryz.isAgg3
  z3 := Tryz.sizeOf3
  v3 := Tryz.zeroValue3
  t4 := Tryz.underlying4
  a4 := Tryz.isAgg4
  z4 := Tryz.sizeOf4
  v4 := Tryz.zeroValue4
  t5 := Tryz.underlying5
  a5 := Tryz.isAgg5
  z5 := Tryz.sizeOf5
  v5 := Tryz.zeroValue5
  t9 := Tryz.underlying9
  a9 := Tryz.isAgg9
  z9 := Tryz.sizeOf9
  v9 := Tryz.zeroValue9
  t20 := Tryz.underlying20
  a20 := Tryz.isAgg20
  z20 := Tryz.sizeOf20
  v20 := Tryz.zeroValue20
  t21 := Tryz.underlying21
  a21 := Tryz.isAgg21
  z21 := Tryz.sizeOf21
  v21 := Tryz.zeroValue21
  t37 := Tryz.underlying164
  a37 := Tryz.isAgg164
  z37 := Tryz.sizeOf164
  v37 := Tryz.zeroValue164
  t46 := Tryz.underlying215
  a46 := Tryz.isAgg215
  z46 := Tryz.sizeOf215
  v46 := Tryz.zeroValue215
  t51 := Tryz.underlying253
  a51 := Tryz.isAgg253
  z51 := Tryz.sizeOf253
  v51 := Tryz.zeroValue253
  t53 := Tryz.underlying218
  a53 := Tryz.isAgg218
  z53 := Tryz.sizeOf218
  v53 := Tryz.zeroValue218
  t75 := Tryz.underlying161
  a75 := Tryz.isAgg161
  z75 := Tryz.sizeOf161
  v75 := Tryz.zeroValue161
  t76 := Tryz.underlying162
  a76 := Tryz.isAgg162
  z76 := Tryz.sizeOf162
  v76 := Tryz.zeroValue162
  t85 := Tryz.underlying267
  a85 := Tryz.isAgg267
  z85 := Tryz.sizeOf267
  v85 := Tryz.zeroValue267
  t127 := Tryz.underlying273
  a127 := Tryz.isAgg273
  z127 := Tryz.sizeOf273
  v127 := Tryz.zeroValue273
  t143 := Tryz.underlying310
  a143 := Tryz.isAgg310
  z143 := Tryz.sizeOf310
  v143 := Tryz.zeroValue310
  t145 := Tryz.underlying312
  a145 := Tryz.isAgg312
  z145 := Tryz.sizeOf312
  v145 := Tryz.zeroValue312
  t167 := Tryz.underlying266
  a167 := Tryz.isAgg266
  z167 := Tryz.sizeOf266
  v167 := Tryz.zeroValue266
  t168 := Tryz.underlying269
  a168 := Tryz.isAgg269
  z168 := Tryz.sizeOf269
  v168 := Tryz.zeroValue269
  t171 := Tryz.underlying294
  a171 := Tryz.isAgg294
  z171 := Tryz.sizeOf294
  v171 := Tryz.zeroValue294
  t173 := Tryz.underlying296
  a173 := Tryz.isAgg296
  z173 := Tryz.sizeOf296
  v173 := Tryz.zeroValue296
  t175 := Tryz.underlying288
  a175 := Tryz.isAgg288
  z175 := Tryz.sizeOf288
  v175 := Tryz.zeroValue288
  t210 := Tryz.underlying292
  a210 := Tryz.isAgg292
  z210 := Tryz.sizeOf292
  v210 := Tryz.zeroValue292
  t212 := Tryz.underlying314
  a212 := Tryz.isAgg314
  z212 := Tryz.sizeOf314
  v212 := Tryz.zeroValue314
  t213 := Tryz.underlying315
  a213 := Tryz.isAgg315
  z213 := Tryz.sizeOf315
  t232 := Tryz.underlying319
  a232 := Tryz.isAgg319
  z232 := Tryz.sizeOf319
  v232 := Tryz.zeroValue319
  t233 := Tryz.underlying320
  a233 := Tryz.isAgg320
  z233 := Tryz.sizeOf320
  v233 := Tryz.zeroValue320
  g15 := by kernel_rfl
  g16 := by kernel_rfl
  g17 := by kernel_rfl
  g18 := by kernel_rfl
  g19 := by kernel_rfl
  t80 := Tryz.underlying239
  a80 := Tryz.isAgg239
  z80 := Tryz.sizeOf239
  v80 := Tryz.zeroValue239
  i0 := by kernel_rfl
  i2 := by kernel_rfl
  i3 := by kernel_rfl
  i4 := by kernel_rfl
  i5 := by kernel_rfl
  i9 := by kernel_rfl
  i20 := by kernel_rfl
  i21 := by kernel_rfl
  i37 := by kernel_rfl
  i46 := by kernel_rfl
  i51 := by kernel_rfl
  i53 := by kernel_rfl
  i75 := by kernel_rfl
  i76 := by kernel_rfl
  i80 := by kernel_rfl
  i85 := by kernel_rfl
  i127 := by kernel_rfl
  i143 := by kernel_rfl
  i145 := by kernel_rfl
  i167 := by kernel_rfl
  i168 := by kernel_rfl
  i171 := by kernel_rfl
  i173 := by kernel_rfl
  i175 := by kernel_rfl
  i210 := by kernel_rfl
  i212 := by kernel_rfl
  i232 := by kernel_rfl
  i233 := by kernel_rfl
  m15 := by kernel_rfl
  m16 := by kernel_rfl
  m17 := by kernel_rfl
  m18 := by kernel_rfl
  m19 := by kernel_rfl
  c0 := by kernel_rfl
  c2 := by kernel_rfl
  c3 := by kernel_rfl
  c4 := by kernel_rfl
  c5 := by kernel_rfl
  c9 := by kernel_rfl
  c20 := by kernel_rfl
  c21 := by kernel_rfl
  c37 := by kernel_rfl
  c46 := by kernel_rfl
  c51 := by kernel_rfl
  c53 := by kernel_rfl
  c75 := by kernel_rfl
  c76 := by kernel_rfl
  c80 := by kernel_rfl
  c85 := by kernel_rfl
  c127 := by kernel_rfl
  c143 := by kernel_rfl
  c145 := by kernel_rfl
  c167 := by kernel_rfl
  c168 := by kernel_rfl
  c171 := by kernel_rfl
  c173 := by kernel_rfl
  c175 := by kernel_rfl
  c210 := by kernel_rfl
  c212 := by kernel_rfl
  c213 := by kernel_rfl
  c232 := by kernel_rfl
  c233 := by kernel_rfl }
def Tryz.lays190_ren : Go.Shelf.Ren := ⟨fun | 190 => 130 | 125 => 204 | 258 => 203 | 128 => 250 | 129 => 251 | 302 => 242 | 303 => 243 | 304 => 244 | 305 => 245 | 306 => 246 | 307 => 247 | 308 => 200 | 309 => 248 | 310 => 249 | 333 => 288 | 329 => 289 | 330 => 290 | 334 => 291 | 335 => 292 | 336 => 241 | 344 => 307 | n => n, fun | 31 => 84 | 9 => 9 | 3 => 3 | 46 => 215 | 0 => 0 | 51 => 253 | 53 => 218 | 4 => 4 | 183 => 247 | 182 => 246 | 131 => 39 | 5 => 5 | 218 => 282 | 222 => 286 | 228 => 307 | 229 => 227 | n => n, fun | n => n⟩
theorem Tryz.lays190 : Go.Proofs.Lays.n190 Tryz.prog Tryz.lays190_ren := {
  mixed := by kernel_rfl
  f125 := Tryz.func204.trans (congrArg some (by kernel_rfl))
  f128 := Tryz.func250.trans (congrArg some (by kernel_rfl))
  f129 := Tryz.func251.trans (congrArg some (by kernel_rfl))
  f190 := Tryz.func130.trans (congrArg some (by kernel_rfl))
  f258 := Tryz.func203.trans (congrArg some (by kernel_rfl))
  f302 := Tryz.func242.trans (congrArg some (by kernel_rfl))
  f303 := Tryz.func243.trans (congrArg some (by kernel_rfl))
  f304 := Tryz.func244.trans (congrArg some (by kernel_rfl))
  f305 := Tryz.func245.trans (congrArg some (by kernel_rfl))
  f306 := Tryz.func246.trans (congrArg some (by kernel_rfl))
  f307 := Tryz.func247.trans (congrArg some (by kernel_rfl))
  f308 := Tryz.func200.trans (congrArg some (by kernel_rfl))
  f309 := Tryz.func248.trans (congrArg some (by kernel_rfl))
  f310 := Tryz.func249.trans (congrArg some (by kernel_rfl))
  f329 := Tryz.func289.trans (congrArg some (by kernel_rfl))
  f330 := Tryz.func290.trans (congrArg some (by kernel_rfl))
  f333 := Tryz.func288.trans (congrArg some (by kernel_rfl))
  f334 := Tryz.func291.trans (congrArg some (by kernel_rfl))
  f335 := Tryz.func292.trans (congrArg some (by kernel_rfl))
  f336 := Tryz.func241.trans (congrArg some (by kernel_rfl))
  f344 := Tryz.func307.trans (congrArg some (by kernel_rfl))
  t0 := Tryz.underlying0
  a0 := Tryz.isAgg0
  z0 := Tryz.sizeOf0
  v0 := Tryz.zeroValue0
  t3 := Tryz.underlying3
  a3 := Tryz.isAgg3
  z3 := Tryz.sizeOf3
  v3 := Tryz.zeroValue3
  t4 := Tryz.underlying4
  a4 := Tryz.isAgg4
  z4 := Tryz.sizeOf4
  v4 := Tryz.zeroValue4
  t5 := Tryz.underlying5
  a5 := Tryz.isAgg5
  z5 := Tryz.sizeOf5
  v5 := Tryz.zeroValue5
  t9 := Tryz.underlying9
  a9 := Tryz.isAgg9
  z9 := Tryz.sizeOf9
  v9 := Tryz.zeroValue9
  t31 := Tryz.underlying84
  a31 := Tryz.isAgg84
  z31 := Tryz.sizeOf84
  v31 := Tryz.zeroValue84
  t46 := Tryz.underlying215
  a46 := Tryz.isAgg215
  z46 := Tryz.sizeOf215
  v46 := Tryz.zeroValue215
  t51 := Tryz.underlying253
  a51 := Tryz.isAgg253
  z51 := Tryz.sizeOf253
  v51 := Tryz.zeroValue253
  t53 := Tryz.underlying218
  a53 := Tryz.isAgg218
  z53 := Tryz.sizeOf218
  v53 := Tryz.zeroValue218
  t131 := Tryz.underlying39
  a131 := Tryz.isAgg39
  z131 := Tryz.sizeOf39
  v131 := Tryz.zeroValue39
  t182 := Tryz.underlying246
  a182 := Tryz.isAgg246
  z182 := Tryz.sizeOf246
  v182 := Tryz.zeroValue246
  t183 := Tryz.underlying247
  a183 := Tryz.isAgg247
  z183 := Tryz.sizeOf247
  v183 := Tryz.zeroValue247
  t218 := Tryz.underlying282
  a218 := Tryz.isAgg282
  z218 := Tryz.sizeOf282
  v218 := Tryz.zeroValue282
  t222 := Tryz.underlying286
  a222 := Tryz.isAgg286
  z222 := Tryz.sizeOf286
  v222 := Tryz.zeroValue286
  t228 := Tryz.underlying307
  a228 := Tryz.isAgg307
  z228 := Tryz.sizeOf307
  v228 := Tryz.zeroValue307
  t229 := Tryz.underlying227
  a229 := Tryz.isAgg227
  z229 := Tryz.sizeOf227
  v229 := Tryz.zeroValue227 }
def Tryz.lays146_ren : Go.Shelf.Ren := ⟨fun | 146 => 107 | 221 => 179 | 268 => 228 | 138 => 229 | 143 => 230 | 195 => 275 | 197 => 219 | 218 => 276 | 219 => 277 | 260 => 270 | 217 => 293 | 225 => 262 | 224 => 261 | 267 => 303 | 266 => 308 | 314 => 315 | n => n, fun | 9 => 9 | 31 => 84 | 3 => 3 | 4 => 4 | 0 => 0 | 105 => 230 | 21 => 21 | 5 => 5 | 46 => 215 | 119 => 298 | 139 => 301 | 138 => 300 | 146 => 316 | 51 => 253 | n => n, fun | 1 => 0 | 3 => 3 | 4 => 4 | n => n⟩
theorem Tryz.lays146 : Go.Proofs.Lays.n146 Tryz.prog Tryz.lays146_ren := {
  mixed := by kernel_rfl
  f138 := Tryz.func229.trans (congrArg some (by kernel_rfl))
  f143 := Tryz.func230.trans (congrArg some (by kernel_rfl))
  f146 := Tryz.func107.trans (congrArg some (by kernel_rfl))
  f195 := Tryz.func275.trans (congrArg some (by kernel_rfl))
  f197 := Tryz.func219.trans (congrArg some (by kernel_rfl))
  f217 := Tryz.func293.trans (congrArg some (by kernel_rfl))
  f218 := Tryz.func276.trans (congrArg some (by kernel_rfl))
  f219 := Tryz.func277.trans (congrArg some (by kernel_rfl))
  f221 := Tryz.func179.trans (congrArg some (by kernel_rfl))
  f224 := Tryz.func261.trans (congrArg some (by kernel_rfl))
  f225 := Tryz.func262.trans (congrArg some (by kernel_rfl))
  f260 := Tryz.func270.trans (congrArg some (by kernel_rfl))
  f266 := Tryz.func308.trans (congrArg some (by kernel_rfl))
  f267 := Tryz.func303.trans (congrArg some (by kernel_rfl))
  f268 := Tryz.func228.trans (congrArg some (by kernel_rfl))
  f314 := Tryz.func315.trans (congrArg some (by kernel_rfl))
  t0 := Tryz.underlying0
  a0 := Tryz.isAgg0
  z0 := Tryz.sizeOf0
  v0 := Tryz.zeroValue0
  t3 := Tryz.underlying3
  a3 := Tryz.isAgg3
  z3 := Tryz.sizeOf3
  v3 := Tryz.zeroValue3
  t4 := Tryz.underlying4
  a4 := Tryz.isAgg4
  z4 := Tryz.sizeOf4
  v4 := Tryz.zeroValue4
  t5 := Tryz.underlying5
  a5 := Tryz.isAgg5
  z5 := Tryz.sizeOf5
  v5 := Tryz.zeroValue5
  t9 := Tryz.underlying9
  a9 := Tryz.isAgg9
  z9 := Tryz.sizeOf9
  v9 := Tryz.zeroValue9
  t21 := Tryz.underlying21
  a21 := Tryz.isAgg21
  z21 := Tryz.sizeOf21
  v21 := Tryz.zeroValue21
  t31 := Tryz.underlying84
  a31 := Tryz.isAgg84
  z31 := Tryz.sizeOf84
  v31 := Tryz.zeroValue84
  t46 := Tryz.underlying215
  a46 := Tryz.isAgg215
  z46 := Tryz.sizeOf215
  v46 := Tryz.zeroValue215
  t51 := Tryz.underlying253
  a51 := Tryz.isAgg253
  z51 := Tryz.sizeOf253
  v51 := Tryz.zeroValue253
  t105 := Tryz.underlying230
  a105 := Tryz.isAgg230
  z105 := Tryz.sizeOf230
  v105 := Tryz.zeroValue230
  t119 := Tryz.underlying298
  a119 := Tryz.isAgg298
  z119 := Tryz.sizeOf298
  t138 := Tryz.underlying300
  a138 := Tryz.isAgg300
  z138 := Tryz.sizeOf300
  v138 := Tryz.zeroValue300
  t139 := Tryz.underlying301
  a139 := Tryz.isAgg301
  z139 := Tryz.sizeOf301
  v139 := Tryz.zeroValue301
  t146 := Tryz.underlying316
  a146 := Tryz.isAgg316
  z146 := Tryz.sizeOf316
  v146 := Tryz.zeroValue316
  g1 := by kernel_rfl
  g3 := by kernel_rfl
  g4 := by kernel_rfl }
end Go.Proofs
