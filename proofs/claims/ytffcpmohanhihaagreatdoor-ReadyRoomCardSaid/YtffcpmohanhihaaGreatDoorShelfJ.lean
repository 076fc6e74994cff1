/-
  DERIVED: THE SHELF's CONTRACTS AT THIS DUMP, IN PLAIN WORDS (tools/lay-plain.mjs out of the shelf's text, which tools/lay-shelf.mjs wrote): THE SAME DECLARATIONS UNDER THE SAME NAMES: 'import', 'namespace', 'open', 'def', 'theorem' AND NOTHING ELSE: no command of the shelf's: FOR A HAND-IN. Each laying: the table of numbers ('.._ren') and one theorem, a field a fact of the dump's own or the kernel's comparison; each contract: ONE APPLICATION.
-/
import Derived.Shelf.Strings.Trim
import Derived.Shelf.Small.Utf8
import Derived.Shelf.Small.Bits
import Derived.Shelf.Small.Strs
import Derived.Shelf.Small.Wraps
import Derived.Shelf.Strconv.Itoa0
import Derived.Shelf.Strconv.Itoa1
import Derived.Shelf.LaysM
import Derived.Shelf.Strconv.Itoa2
import Derived.Shelf.Strconv.Itoa3
import Derived.Shelf.Strconv.ParseIntEmpty
import Derived.Shelf.Strconv.Clone
import Derived.Shelf.Strconv.SyntaxError
import Derived.Shelf.LaysC
import Derived.Shelf.Strconv.ToError
import Derived.Shelf.Strconv.Lower
import Derived.Shelf.Strconv.ParseUint10
import Derived.Shelf.Strconv.ParseUint10Empty
import Derived.Shelf.Strconv.ParseUint10Any
import Derived.Shelf.Strconv.ParseInt10
import Derived.Shelf.Strconv.RangeError
import Derived.Shelf.Strconv.ToErrorRange
import Derived.Shelf.Strconv.ParseUintEmpty
import Derived.Shelf.Strconv.ParseUint10b64
import Derived.Shelf.Strconv.ParseUint10b32
import Derived.Shelf.Strconv.ParseUint10b16
import Derived.Shelf.Strconv.ParseUint10b8
import Derived.Shelf.Strconv.ParseUint10At
import Derived.Shelf.Strconv.ParseInt10At64
import Derived.Shelf.Strconv.ParseInt10At32
import Derived.Shelf.Strconv.ParseInt10At16
import Derived.Shelf.Strconv.ParseInt10At8
import Derived.Shelf.Strconv.ParseInt10All
import Derived.Shelf.Strconv.ParseIntPublic10
import Derived.Shelf.Strconv.ErrVarParseInt
import Derived.Shelf.Strings.Search1
import Derived.Shelf.Strings.Prefix
import Derived.Shelf.Unicode.Decode
import Derived.Shelf.Strings.Runes
import Derived.Shelf.Strings.IndexAny
import Derived.Shelf.Strings.AsciiSet
import Derived.Shelf.Strings.IndexAnyAll
import Derived.Shelf.Unicode.DecodeSlow
import Derived.Shelf.Unicode.DecodeAny
import Derived.Shelf.Unicode.DecodeLast
import Derived.Ground.SlgmProg
import Derived.Shelf.SortM.Plain
import Derived.Shelf.SortM.SortNone
import Derived.Test.YtffcpmohanhihaaGreatDoorProg
namespace Go.Proofs
open Go.Shelf
def Tryz.lays161_ren : Go.Shelf.Ren := ⟨fun | 161 => 168 | 231 => 182 | 227 => 173 | 233 => 183 | 235 => 184 | 228 => 174 | 197 => 197 | 151 => 198 | 260 => 202 | 152 => 171 | 137 => 188 | 119 => 189 | 224 => 190 | 225 => 191 | 217 => 200 | 266 => 204 | n => n, fun | 9 => 9 | 4 => 4 | 3 => 3 | 5 => 5 | 117 => 217 | 116 => 216 | 0 => 0 | 124 => 227 | 105 => 235 | 21 => 21 | 119 => 243 | 46 => 159 | 139 => 246 | 138 => 245 | n => n, fun | 3 => 3 | 4 => 4 | n => n⟩
theorem Tryz.lays161 : Go.Proofs.Lays.n161 Tryz.prog Tryz.lays161_ren := {
  mixed := by kernel_rfl
  f119 := Tryz.func189.trans (congrArg some (by kernel_rfl))
  f137 := Tryz.func188.trans (congrArg some (by kernel_rfl))
  f151 := Tryz.func198.trans (congrArg some (by kernel_rfl))
  f152 := Tryz.func171.trans (congrArg some (by kernel_rfl))
  f161 := Tryz.func168.trans (congrArg some (by kernel_rfl))
  f197 := Tryz.func197.trans (congrArg some (by kernel_rfl))
  f217 := Tryz.func200.trans (congrArg some (by kernel_rfl))
  f224 := Tryz.func190.trans (congrArg some (by kernel_rfl))
  f225 := Tryz.func191.trans (congrArg some (by kernel_rfl))
  f227 := Tryz.func173.trans (congrArg some (by kernel_rfl))
  f228 := Tryz.func174.trans (congrArg some (by kernel_rfl))
  f231 := Tryz.func182.trans (congrArg some (by kernel_rfl))
  f233 := Tryz.func183.trans (congrArg some (by kernel_rfl))
  f235 := Tryz.func184.trans (congrArg some (by kernel_rfl))
  f260 := Tryz.func202.trans (congrArg some (by kernel_rfl))
  f266 := Tryz.func204.trans (congrArg some (by kernel_rfl))
  t0 := Tryz.underlying0
  a0 := Tryz.isAgg0
  z0 := Tryz.sizeOf0
  v0 := Tryz.zeroValue0
  t3 := Tryz.underlying3
  a3 := Tryz.isAgg3
  z3 := Tryz.sizeOf3
  v3 := Tryz.zeroValue3
  t4 := Tryz.underlying4
  a4 := Tryz.isAgg4
  z4 := Tryz.sizeOf4
  v4 := Tryz.zeroValue4
  t5 := Tryz.underlying5
  a5 := Tryz.isAgg5
  z5 := Tryz.sizeOf5
  v5 := Tryz.zeroValue5
  t9 := Tryz.underlying9
  a9 := Tryz.isAgg9
  z9 := Tryz.sizeOf9
  v9 := Tryz.zeroValue9
  t21 := Tryz.underlying21
  a21 := Tryz.isAgg21
  z21 := Tryz.sizeOf21
  v21 := Tryz.zeroValue21
  t46 := Tryz.underlying159
  a46 := Tryz.isAgg159
  z46 := Tryz.sizeOf159
  v46 := Tryz.zeroValue159
  t105 := Tryz.underlying235
  a105 := Tryz.isAgg235
  z105 := Tryz.sizeOf235
  v105 := Tryz.zeroValue235
  t116 := Tryz.underlying216
  a116 := Tryz.isAgg216
  z116 := Tryz.sizeOf216
  t117 := Tryz.underlying217
  a117 := Tryz.isAgg217
  z117 := Tryz.sizeOf217
  v117 := Tryz.zeroValue217
  t119 := Tryz.underlying243
  a119 := Tryz.isAgg243
  z119 := Tryz.sizeOf243
  t124 := Tryz.underlying227
  a124 := Tryz.isAgg227
  z124 := Tryz.sizeOf227
  v124 := Tryz.zeroValue227
  t138 := Tryz.underlying245
  a138 := Tryz.isAgg245
  z138 := Tryz.sizeOf245
  v138 := Tryz.zeroValue245
  t139 := Tryz.underlying246
  a139 := Tryz.isAgg246
  z139 := Tryz.sizeOf246
  v139 := Tryz.zeroValue246
  g3 := by kernel_rfl
  g4 := by kernel_rfl }
open Go.RowKit in
theorem Tryz.strings_TrimLeft_one (s : ByteArray) (c : UInt8) (hc : c.toNat < 128) (w : World) :
    Calls Tryz.prog 168 #[.string s, .string ⟨#[c]⟩] w fun e w' => e = .returned (.string ⟨(Lib.trimLeftB s.data.toList c).toArray⟩) ∧ w' = w := Any.strings_TrimLeft_one Tryz.lays161 s c hc w
def Tryz.lays162_ren : Go.Shelf.Ren := ⟨fun | 162 => 169 | 232 => 185 | 227 => 173 | 234 => 186 | 236 => 187 | 228 => 174 | 271 => 199 | 151 => 198 | 120 => 203 | 197 => 197 | 152 => 171 | 260 => 202 | 137 => 188 | 119 => 189 | 224 => 190 | 225 => 191 | 217 => 200 | 266 => 204 | n => n, fun | 9 => 9 | 4 => 4 | 3 => 3 | 5 => 5 | 117 => 217 | 116 => 216 | 0 => 0 | 124 => 227 | 21 => 21 | 105 => 235 | 46 => 159 | 119 => 243 | 139 => 246 | 138 => 245 | n => n, fun | 3 => 3 | 4 => 4 | n => n⟩
theorem Tryz.lays162 : Go.Proofs.Lays.n162 Tryz.prog Tryz.lays162_ren := {
  mixed := by kernel_rfl
  f119 := Tryz.func189.trans (congrArg some (by kernel_rfl))
  f120 := Tryz.func203.trans (congrArg some (by kernel_rfl))
  f137 := Tryz.func188.trans (congrArg some (by kernel_rfl))
  f151 := Tryz.func198.trans (congrArg some (by kernel_rfl))
  f152 := Tryz.func171.trans (congrArg some (by kernel_rfl))
  f162 := Tryz.func169.trans (congrArg some (by kernel_rfl))
  f197 := Tryz.func197.trans (congrArg some (by kernel_rfl))
  f217 := Tryz.func200.trans (congrArg some (by kernel_rfl))
  f224 := Tryz.func190.trans (congrArg some (by kernel_rfl))
  f225 := Tryz.func191.trans (congrArg some (by kernel_rfl))
  f227 := Tryz.func173.trans (congrArg some (by kernel_rfl))
  f228 := Tryz.func174.trans (congrArg some (by kernel_rfl))
  f232 := Tryz.func185.trans (congrArg some (by kernel_rfl))
  f234 := Tryz.func186.trans (congrArg some (by kernel_rfl))
  f236 := Tryz.func187.trans (congrArg some (by kernel_rfl))
  f260 := Tryz.func202.trans (congrArg some (by kernel_rfl))
  f266 := Tryz.func204.trans (congrArg some (by kernel_rfl))
  f271 := Tryz.func199.trans (congrArg some (by kernel_rfl))
  t0 := Tryz.underlying0
  a0 := Tryz.isAgg0
  z0 := Tryz.sizeOf0
  v0 := Tryz.zeroValue0
  t3 := Tryz.underlying3
  a3 := Tryz.isAgg3
  z3 := Tryz.sizeOf3
  v3 := Tryz.zeroValue3
  t4 := Tryz.underlying4
  a4 := Tryz.isAgg4
  z4 := Tryz.sizeOf4
  v4 := Tryz.zeroValue4
  t5 := Tryz.underlying5
  a5 := Tryz.isAgg5
  z5 := Tryz.sizeOf5
  v5 := Tryz.zeroValue5
  t9 := Tryz.underlying9
  a9 := Tryz.isAgg9
  z9 := Tryz.sizeOf9
  v9 := Tryz.zeroValue9
  t21 := Tryz.underlying21
  a21 := Tryz.isAgg21
  z21 := Tryz.sizeOf21
  v21 := Tryz.zeroValue21
  t46 := Tryz.underlying159
  a46 := Tryz.isAgg159
  z46 := Tryz.sizeOf159
  v46 := Tryz.zeroValue159
  t105 := Tryz.underlying235
  a105 := Tryz.isAgg235
  z105 := Tryz.sizeOf235
  v105 := Tryz.zeroValue235
  t116 := Tryz.underlying216
  a116 := Tryz.isAgg216
  z116 := Tryz.sizeOf216
  t117 := Tryz.underlying217
  a117 := Tryz.isAgg217
  z117 := Tryz.sizeOf217
  v117 := Tryz.zeroValue217
  t119 := Tryz.underlying243
  a119 := Tryz.isAgg243
  z119 := Tryz.sizeOf243
  t124 := Tryz.underlying227
  a124 := Tryz.isAgg227
  z124 := Tryz.sizeOf227
  v124 := Tryz.zeroValue227
  t138 := Tryz.underlying245
  a138 := Tryz.isAgg245
  z138 := Tryz.sizeOf245
  v138 := Tryz.zeroValue245
  t139 := Tryz.underlying246
  a139 := Tryz.isAgg246
  z139 := Tryz.sizeOf246
  v139 := Tryz.zeroValue246
  g3 := by kernel_rfl
  g4 := by kernel_rfl }
open Go.RowKit in
theorem Tryz.strings_TrimRight_one (s : ByteArray) (c : UInt8) (hc : c.toNat < 128) (w : World) (hs : s.size ≤ 9223372036854775807) :
    Calls Tryz.prog 169 #[.string s, .string ⟨#[c]⟩] w fun e w' => e = .returned (.string ⟨(Lib.trimRightB s.data.toList c).toArray⟩) ∧ w' = w := Any.strings_TrimRight_one Tryz.lays162 s c hc w hs
def Tryz.lays103_ren : Go.Shelf.Ren := ⟨fun | 103 => 164 | 210 => 180 | 206 => 181 | n => n, fun | 9 => 9 | 4 => 4 | 24 => 210 | 3 => 3 | n => n, fun | n => n⟩
theorem Tryz.lays103 : Go.Proofs.Lays.n103 Tryz.prog Tryz.lays103_ren := {
  mixed := by kernel_rfl
  f103 := Tryz.func164.trans (congrArg some (by kernel_rfl))
  f206 := Tryz.func181.trans (congrArg some (by kernel_rfl))
  f210 := Tryz.func180.trans (congrArg some (by kernel_rfl))
  t3 := Tryz.underlying3
  a3 := Tryz.isAgg3
  z3 := Tryz.sizeOf3
  v3 := Tryz.zeroValue3
  t4 := Tryz.underlying4
  a4 := Tryz.isAgg4
  z4 := Tryz.sizeOf4
  v4 := Tryz.zeroValue4
  t9 := Tryz.underlying9
  a9 := Tryz.isAgg9
  z9 := Tryz.sizeOf9
  v9 := Tryz.zeroValue9
  t24 := Tryz.underlying210
  a24 := Tryz.isAgg210
  z24 := Tryz.sizeOf210
  v24 := Tryz.zeroValue210 }
open Go.RowKit in
theorem Tryz.strings_CutPrefix (s p : ByteArray) (w : World) :
    Calls Tryz.prog 164 #[.string s, .string p] w fun e w' => e = .returned (.tuple #[.string ⟨(Lib.trimPrefix s.data.toList p.data.toList).toArray⟩, .bool (Lib.hasPrefix s.data.toList p.data.toList)]) ∧ w' = w := Any.strings_CutPrefix Tryz.lays103 s p w
def Tryz.laysC174_ren : Go.Shelf.Ren := ⟨fun | 174 => 156 | 247 => 162 | 245 => 163 | 287 => 175 | 279 => 176 | 280 => 177 | 281 => 178 | 282 => 179 | 321 => 192 | 322 => 193 | 316 => 194 | 171 => 196 | 205 => 195 | 243 => 201 | 246 => 205 | 283 => 206 | 284 => 207 | 285 => 208 | 286 => 209 | 129 => 143 | 317 => 210 | 318 => 211 | 319 => 212 | 320 => 213 | 337 => 214 | 338 => 215 | n => n, fun | 9 => 9 | 3 => 3 | 2 => 2 | 75 => 199 | 85 => 200 | 4 => 4 | 167 => 219 | 5 => 5 | 53 => 190 | 175 => 220 | 46 => 159 | 168 => 222 | 37 => 105 | 0 => 0 | 210 => 233 | 21 => 21 | 127 => 238 | 145 => 241 | 143 => 239 | 171 => 247 | 173 => 249 | 212 => 252 | 51 => 188 | 20 => 20 | 213 => 253 | 232 => 254 | 233 => 255 | 80 => 256 | n => n, fun | 15 => 0 | 16 => 1 | 17 => 5 | 18 => 6 | 19 => 7 | n => n⟩
theorem Tryz.laysC174 : Go.Proofs.LaysC.n174 Tryz.prog Tryz.laysC174_ren := {
  mixed := by kernel_rfl
  f129 := Tryz.func143.trans (congrArg some (by kernel_rfl))
  f171 := Tryz.func196.trans (congrArg some (by kernel_rfl))
  f174 := Tryz.func156.trans (congrArg some (by kernel_rfl))
  f205 := Tryz.func195.trans (congrArg some (by kernel_rfl))
  f243 := Tryz.func201.trans (congrArg some (by kernel_rfl))
  f245 := Tryz.func163.trans (congrArg some (by kernel_rfl))
  f246 := Tryz.func205.trans (congrArg some (by kernel_rfl))
  f247 := Tryz.func162.trans (congrArg some (by kernel_rfl))
  f279 := Tryz.func176.trans (congrArg some (by kernel_rfl))
  f280 := Tryz.func177.trans (congrArg some (by kernel_rfl))
  f281 := Tryz.func178.trans (congrArg some (by kernel_rfl))
  f282 := Tryz.func179.trans (congrArg some (by kernel_rfl))
  f283 := Tryz.func206.trans (congrArg some (by kernel_rfl))
  f284 := Tryz.func207.trans (congrArg some (by kernel_rfl))
  f285 := Tryz.func208.trans (congrArg some (by kernel_rfl))
  f286 := Tryz.func209.trans (congrArg some (by kernel_rfl))
  f287 := Tryz.func175.trans (congrArg some (by kernel_rfl))
  f316 := Tryz.func194.trans (congrArg some (by kernel_rfl))
  f317 := Tryz.func210.trans (congrArg some (by kernel_rfl))
  f318 := Tryz.func211.trans (congrArg some (by kernel_rfl))
  f319 := Tryz.func212.trans (congrArg some (by kernel_rfl))
  f320 := Tryz.func213.trans (congrArg some (by kernel_rfl))
  f321 := Tryz.func192.trans (congrArg some (by kernel_rfl))
  f322 := Tryz.func193.trans (congrArg some (by kernel_rfl))
  f337 := Tryz.func214.trans (congrArg some (by kernel_rfl))
  f338 := Tryz.func215.trans (congrArg some (by kernel_rfl))
  t0 := Tryz.underlying0
  a0 := Tryz.isAgg0
  z0 := Tryz.sizeOf0
  v0 := Tryz.zeroValue0
  t2 := Tryz.underlying2
  a2 := Tryz.isAgg2
  z2 := Tryz.sizeOf2
  v2 := Tryz.zeroValue2
  t3 := Tryz.underlying3
  a3 := Tryz.isAgg3
  z3 := Tryz.sizeOf3
  v3 := Tryz.zeroValue3
  t4 := Tryz.underlying4
  a4 := Tryz.isAgg4
  z4 := Tryz.sizeOf4
  v4 := Tryz.zeroValue4
  t5 := Tryz.underlying5
  a5 := Tryz.isAgg5
  z5 := Tryz.sizeOf5
  v5 := Tryz.zeroValue5
  t9 := Tryz.underlying9
  a9 := Tryz.isAgg9
  z9 := Tryz.sizeOf9
  v9 := Tryz.zeroValue9
  t20 := Tryz.underlying20
  a20 := Tryz.isAgg20
  z20 := Tryz.sizeOf20
  v20 := Tryz.zeroValue20
  t21 := Tryz.underlying21
  a21 := Tryz.isAgg21
  z21 := Tryz.sizeOf21
  v21 := Tryz.zeroValue21
  t37 := Tryz.underlying105
  a37 := Tryz.isAgg105
  z37 := Tryz.sizeOf105
  v37 := Tryz.zeroValue105
  t46 := Tryz.underlying159
  a46 := Tryz.isAgg159
  z46 := Tryz.sizeOf159
  v46 := Tryz.zeroValue159
  t51 := Tryz.underlying188
  a51 := Tryz.isAgg188
  z51 := Tryz.sizeOf188
  v51 := Tryz.zeroValue188
  t53 := Tryz.underlying190
  a53 := Tryz.isAgg190
  z53 := Tryz.sizeOf190
  v53 := Tryz.zeroValue190
  t75 := Tryz.underlying199
  a75 := Tryz.isAgg199
  z75 := Tryz.sizeOf199
  v75 := Tryz.zeroValue199
  t85 := Tryz.underlying200
  a85 := Tryz.isAgg200
  z85 := Tryz.sizeOf200
  v85 := Tryz.zeroValue200
  t127 := Tryz.underlying238
  a127 := Tryz.isAgg238
  z127 := Tryz.sizeOf238
  v127 := Tryz.zeroValue238
  t143 := Tryz.underlying239
  a143 := Tryz.isAgg239
  z143 := Tryz.sizeOf239
  v143 := Tryz.zeroValue239
  t145 := Tryz.underlying241
  a145 := Tryz.isAgg241
  z145 := Tryz.sizeOf241
  v145 := Tryz.zeroValue241
  t167 := Tryz.underlying219
  a167 := Tryz.isAgg219
  z167 := Tryz.sizeOf219
  v167 := Tryz.zeroValue219
  t168 := Tryz.underlying222
  a168 := Tryz.isAgg222
  z168 := Tryz.sizeOf222
  v168 := Tryz.zeroValue222
  t171 := Tryz.underlying247
  a171 := Tryz.isAgg247
  z171 := Tryz.sizeOf247
  v171 := Tryz.zeroValue247
  t173 := Tryz.underlying249
  a173 := Tryz.isAgg249
  z173 := Tryz.sizeOf249
  v173 := Tryz.zeroValue249
  t175 := Tryz.underlying220
  a175 := Tryz.isAgg220
  z175 := Tryz.sizeOf220
  v175 := Tryz.zeroValue220
  t210 := Tryz.underlying233
  a210 := Tryz.isAgg233
  z210 := Tryz.sizeOf233
  v210 := Tryz.zeroValue233
  t212 := Tryz.underlying252
  a212 := Tryz.isAgg252
  z212 := Tryz.sizeOf252
  v212 := Tryz.zeroValue252
  t213 := Tryz.underlying253
  a213 := Tryz.isAgg253
  z213 := Tryz.sizeOf253
  t232 := Tryz.underlying254
  a232 := Tryz.isAgg254
  z232 := Tryz.sizeOf254
  v232 := Tryz.zeroValue254
  t233 := Tryz.underlying255
  a233 := Tryz.isAgg255
  z233 := Tryz.sizeOf255
  v233 := Tryz.zeroValue255
  g15 := by kernel_rfl
  g16 := by kernel_rfl
  g17 := by kernel_rfl
  g18 := by kernel_rfl
  g19 := by kernel_rfl
  t80 := Tryz.underlying256
  a80 := Tryz.isAgg256
  z80 := Tryz.sizeOf256
  v80 := Tryz.zeroValue256
  i0 := by kernel_rfl
  i2 := by kernel_rfl
  i3 := by kernel_rfl
  i4 := by kernel_rfl
  i5 := by kernel_rfl
  i9 := by kernel_rfl
  i20 := by kernel_rfl
  i21 := by kernel_rfl
  i37 := by kernel_rfl
  i46 := by kernel_rfl
  i51 := by kernel_rfl
  i53 := by kernel_rfl
  i75 := by kernel_rfl
  i80 := by kernel_rfl
  i85 := by kernel_rfl
  i127 := by kernel_rfl
  i143 := by kernel_rfl
  i145 := by kernel_rfl
  i167 := by kernel_rfl
  i168 := by kernel_rfl
  i171 := by kernel_rfl
  i173 := by kernel_rfl
  i175 := by kernel_rfl
  i210 := by kernel_rfl
  i212 := by kernel_rfl
  i232 := by kernel_rfl
  i233 := by kernel_rfl
  m15 := by kernel_rfl
  m16 := by kernel_rfl
  m17 := by kernel_rfl
  m18 := by kernel_rfl
  m19 := by kernel_rfl
  c0 := by kernel_rfl
  c2 := by kernel_rfl
  c3 := by kernel_rfl
  c4 := by kernel_rfl
  c5 := by kernel_rfl
  c9 := by kernel_rfl
  c20 := by kernel_rfl
  c21 := by kernel_rfl
  c37 := by kernel_rfl
  c46 := by kernel_rfl
  c51 := by kernel_rfl
  c53 := by kernel_rfl
  c75 := by kernel_rfl
  c80 := by kernel_rfl
  c85 := by kernel_rfl
  c127 := by kernel_rfl
  c143 := by kernel_rfl
  c145 := by kernel_rfl
  c167 := by kernel_rfl
  c168 := by kernel_rfl
  c171 := by kernel_rfl
  c173 := by kernel_rfl
  c175 := by kernel_rfl
  c210 := by kernel_rfl
  c212 := by kernel_rfl
  c213 := by kernel_rfl
  c232 := by kernel_rfl
  c233 := by kernel_rfl }
open Go.RowKit in
theorem Tryz.strconv_ParseInt_10_at64_ok (s : ByteArray) (hmax : s.size ≤ 9223372036854775806) (v : Int) (h : Lib.parseIntB 64 s.data.toList = .ok v) (w : World) :
    Calls Tryz.prog 156 #[.string s, .int .i64 10, .int .i64 64] w fun e w' => e = .returned (.tuple #[.int .i64 v, .nilIface]) ∧ (w' = w ∨ ∃ t, w' = Lib.bytesWorld w 5 t) := Any.strconv_ParseInt_10_at64_ok Tryz.laysC174 s hmax v h w
open Go.RowKit in
theorem Tryz.strconv_ParseInt_10_at64_syntax_var (s : ByteArray) (hlim : s.size ≤ 281474976710656) (h : Lib.parseIntB 64 s.data.toList = Lib.parseIntB 64 []) (tp : TypeId) (p : Value) (w : World) (hvar : w.var? Tryz.prog "strconv.ErrSyntax" = some #[.iface tp p]) :
    Calls Tryz.prog 156 #[.string s, .int .i64 10, .int .i64 64] w fun e w' => ∃ N, e = .returned (.tuple #[.int .i64 (0), .iface 222 (.pointer (some ⟨N, 0, none⟩))]) ∧ w.heap.size ≤ N ∧ w'.heap[N]? = some (.cells #[.string ⟨#[80, 97, 114, 115, 101, 73, 110, 116]⟩, .string s, .iface tp p] 233 (0, 0)) ∧ Below w.heap.size w w' := Any.strconv_ParseInt_10_at64_syntax_var Tryz.laysC174 s hlim h tp p w hvar
open Go.RowKit in
theorem Tryz.strconv_ParseInt_10_at64_range_var (s : ByteArray) (hlim : s.size ≤ 281474976710656) (h : Lib.parseIntB 64 s.data.toList = .range) (tp : TypeId) (p : Value) (w : World) (hvar : w.var? Tryz.prog "strconv.ErrRange" = some #[.iface tp p]) :
    Calls Tryz.prog 156 #[.string s, .int .i64 10, .int .i64 64] w fun e w' => ∃ N, e = .returned (.tuple #[.int .i64 (Lib.intSat 64 s.data.toList), .iface 222 (.pointer (some ⟨N, 0, none⟩))]) ∧ w.heap.size ≤ N ∧ w'.heap[N]? = some (.cells #[.string ⟨#[80, 97, 114, 115, 101, 73, 110, 116]⟩, .string s, .iface tp p] 233 (0, 0)) ∧ Below w.heap.size w w' := Any.strconv_ParseInt_10_at64_range_var Tryz.laysC174 s hlim h tp p w hvar
def Tryz.lays99_ren : Go.Shelf.Ren := ⟨fun | 99 => 166 | 206 => 181 | n => n, fun | 9 => 9 | 4 => 4 | 3 => 3 | n => n, fun | n => n⟩
theorem Tryz.lays99 : Go.Proofs.Lays.n99 Tryz.prog Tryz.lays99_ren := {
  mixed := by kernel_rfl
  f99 := Tryz.func166.trans (congrArg some (by kernel_rfl))
  f206 := Tryz.func181.trans (congrArg some (by kernel_rfl))
  t3 := Tryz.underlying3
  a3 := Tryz.isAgg3
  z3 := Tryz.sizeOf3
  v3 := Tryz.zeroValue3
  t4 := Tryz.underlying4
  a4 := Tryz.isAgg4
  z4 := Tryz.sizeOf4
  v4 := Tryz.zeroValue4
  t9 := Tryz.underlying9
  a9 := Tryz.isAgg9
  z9 := Tryz.sizeOf9
  v9 := Tryz.zeroValue9 }
open Go.RowKit Go.Lib in
theorem Tryz.strings_HasPrefix (s p : ByteArray) (w : World) :
    Calls Tryz.prog 166 #[.string s, .string p] w fun e w' => e = .returned (.bool (Lib.hasPrefix s.data.toList p.data.toList)) ∧ w' = w := Any.strings_HasPrefix Tryz.lays99 s p w
def Tryz.lays150_ren : Go.Shelf.Ren := ⟨fun | 150 => 155 | 153 => 161 | 152 => 171 | 226 => 172 | 227 => 173 | 228 => 174 | 137 => 188 | 119 => 189 | 224 => 190 | 225 => 191 | 217 => 200 | 266 => 204 | n => n, fun | 9 => 9 | 4 => 4 | 3 => 3 | 5 => 5 | 21 => 21 | 117 => 217 | 116 => 216 | 0 => 0 | 46 => 159 | 124 => 227 | n => n, fun | n => n⟩
theorem Tryz.lays150 : Go.Proofs.Lays.n150 Tryz.prog Tryz.lays150_ren := {
  mixed := by kernel_rfl
  f119 := Tryz.func189.trans (congrArg some (by kernel_rfl))
  f137 := Tryz.func188.trans (congrArg some (by kernel_rfl))
  f150 := Tryz.func155.trans (congrArg some (by kernel_rfl))
  f152 := Tryz.func171.trans (congrArg some (by kernel_rfl))
  f153 := Tryz.func161.trans (congrArg some (by kernel_rfl))
  f217 := Tryz.func200.trans (congrArg some (by kernel_rfl))
  f224 := Tryz.func190.trans (congrArg some (by kernel_rfl))
  f225 := Tryz.func191.trans (congrArg some (by kernel_rfl))
  f226 := Tryz.func172.trans (congrArg some (by kernel_rfl))
  f227 := Tryz.func173.trans (congrArg some (by kernel_rfl))
  f228 := Tryz.func174.trans (congrArg some (by kernel_rfl))
  f266 := Tryz.func204.trans (congrArg some (by kernel_rfl))
  t0 := Tryz.underlying0
  a0 := Tryz.isAgg0
  z0 := Tryz.sizeOf0
  v0 := Tryz.zeroValue0
  t3 := Tryz.underlying3
  a3 := Tryz.isAgg3
  z3 := Tryz.sizeOf3
  v3 := Tryz.zeroValue3
  t4 := Tryz.underlying4
  a4 := Tryz.isAgg4
  z4 := Tryz.sizeOf4
  v4 := Tryz.zeroValue4
  t5 := Tryz.underlying5
  a5 := Tryz.isAgg5
  z5 := Tryz.sizeOf5
  v5 := Tryz.zeroValue5
  t9 := Tryz.underlying9
  a9 := Tryz.isAgg9
  z9 := Tryz.sizeOf9
  v9 := Tryz.zeroValue9
  t21 := Tryz.underlying21
  a21 := Tryz.isAgg21
  z21 := Tryz.sizeOf21
  v21 := Tryz.zeroValue21
  t46 := Tryz.underlying159
  a46 := Tryz.isAgg159
  z46 := Tryz.sizeOf159
  v46 := Tryz.zeroValue159
  t116 := Tryz.underlying216
  a116 := Tryz.isAgg216
  z116 := Tryz.sizeOf216
  t117 := Tryz.underlying217
  a117 := Tryz.isAgg217
  z117 := Tryz.sizeOf217
  v117 := Tryz.zeroValue217
  t124 := Tryz.underlying227
  a124 := Tryz.isAgg227
  z124 := Tryz.sizeOf227
  v124 := Tryz.zeroValue227 }
open Go.RowKit Go.Lib in
theorem Tryz.strings_ContainsAny_laid (s chars : ByteArray) (w : World) (hs : s.size < 4294967281) (hcs : chars.size < 4294967281) (has : ∀ (j : Nat) b, s.data.toList[j]? = some b → b.toNat < 128) (hac : ∀ (j : Nat) b, chars.data.toList[j]? = some b → b.toNat < 128) :
    Calls Tryz.prog 155 #[.string s, .string chars] w fun e w' => e = .returned (.bool (Lib.containsAny s.data.toList chars.data.toList)) ∧ Below w.heap.size w w' := Any.strings_ContainsAny_laid Tryz.lays150 (by kernel_rfl) s chars w hs hcs has hac
end Go.Proofs
