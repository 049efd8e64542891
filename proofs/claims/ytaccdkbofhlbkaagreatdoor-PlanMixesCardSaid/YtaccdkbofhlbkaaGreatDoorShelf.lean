/-
  DERIVED: THE SHELF's CONTRACTS AT THIS DUMP, IN PLAIN WORDS (tools/lay-plain.mjs out of 'YtaccdkbofhlbkaaGreatDoorShelf.lean', which tools/lay-shelf.mjs wrote): THE SAME DECLARATIONS UNDER THE SAME NAMES: 'import', 'namespace', 'open', 'def', 'theorem' AND NOTHING ELSE: no command of the shelf's: FOR A HAND-IN. Each laying: the table of numbers ('.._ren') and one theorem, a field a fact of the dump's own or the kernel's comparison; each contract: ONE APPLICATION.
-/
import Derived.Shelf.Strings.SlTrimAscii
import Derived.Shelf.Strings.Builder1
import Derived.Shelf.Strings.Trim
import Derived.Shelf.Small.Utf8
import Derived.Shelf.Small.Strs
import Derived.Shelf.Strings.BuilderF
import Derived.Shelf.Strings.BuilderK
import Derived.Shelf.Strconv.Atoi
import Derived.Shelf.Strconv.Itoa0
import Derived.Shelf.Strconv.Itoa1
import Derived.Shelf.LaysM
import Derived.Shelf.Strconv.Itoa2
import Derived.Shelf.Strconv.Itoa3
import Derived.Shelf.Strings.Search1
import Derived.Shelf.Strings.Search2
import Derived.Shelf.Strings.Cut
import Derived.Shelf.Strings.Shaped
import Derived.Shelf.Strings.Prefix
import Derived.Shelf.Strings.Runes
import Derived.Shelf.Strings.AsciiSet
import Derived.Shelf.Unicode.DecodeSlow
import Derived.Test.YtaccdkbofhlbkaaGreatDoorProg
namespace Go.Proofs
open Go.Shelf
def Tryz.lays169_ren : Go.Shelf.Ren := ⟨fun | 169 => 170 | n => n, fun | 70 => 182 | 9 => 9 | 0 => 0 | 72 => 184 | 37 => 135 | 127 => 203 | 3 => 3 | 5 => 5 | n => n, fun | n => n⟩
theorem Tryz.lays169 : Go.Proofs.Lays.n169 Tryz.prog Tryz.lays169_ren := {
  mixed := by kernel_rfl
  f169 := Tryz.func170.trans (congrArg some (by kernel_rfl))
  t0 := Tryz.underlying0
  a0 := Tryz.isAgg0
  z0 := Tryz.sizeOf0
  v0 := Tryz.zeroValue0
  t3 := Tryz.underlying3
  a3 := Tryz.isAgg3
  z3 := Tryz.sizeOf3
  v3 := Tryz.zeroValue3
  t9 := Tryz.underlying9
  a9 := Tryz.isAgg9
  z9 := Tryz.sizeOf9
  v9 := Tryz.zeroValue9
  t37 := Tryz.underlying135
  a37 := Tryz.isAgg135
  z37 := Tryz.sizeOf135
  v37 := Tryz.zeroValue135
  t70 := Tryz.underlying182
  a70 := Tryz.isAgg182
  z70 := Tryz.sizeOf182
  v70 := Tryz.zeroValue182
  t72 := Tryz.underlying184
  a72 := Tryz.isAgg184
  z72 := Tryz.sizeOf184
  v72 := Tryz.zeroValue184
  t127 := Tryz.underlying203
  a127 := Tryz.isAgg203
  z127 := Tryz.sizeOf203
  v127 := Tryz.zeroValue203 }
theorem Tryz.Builder_Extra_169 : Builder.Extra Tryz.prog Tryz.lays169_ren := {
  sizeBuilder := by kernel_rfl
  liesBuilder := by kernel_rfl
  t5 := Tryz.underlying5
  a5 := Tryz.isAgg5
  z5 := Tryz.sizeOf5
  v5 := Tryz.zeroValue5
  infoByte := by kernel_rfl
  cellsByte := by kernel_rfl
  sizeByte := by kernel_rfl
  neB5 := by decide }
open Go.RowKit in
/-- (*strings.Builder).String: "String returns the accumulated string.": WHATEVER THE BUILDER HOLDS. (LAID: no walk: one application.) -/
theorem Tryz.Builder_String_any (B b : Nat) (l : List UInt8) (w : World) (h : Lib.IsBuilder 184 5 B b (Lib.byteCells l) w) (hBw : B ≤ w.heap.size) :
    Calls Tryz.prog 170 #[.pointer (some ⟨b, 0, none⟩)] w fun e w' => e = .returned (.string ⟨l.toArray⟩) ∧ Below B w w' := Any.Builder_String_any Tryz.lays169 Tryz.Builder_Extra_169 B b l w h hBw
def Tryz.lays106_ren : Go.Shelf.Ren := ⟨fun | 106 => 143 | 213 => 165 | 265 => 182 | n => n, fun | 9 => 9 | 3 => 3 | n => n, fun | n => n⟩
theorem Tryz.lays106 : Go.Proofs.Lays.n106 Tryz.prog Tryz.lays106_ren := {
  mixed := by kernel_rfl
  f106 := Tryz.func143.trans (congrArg some (by kernel_rfl))
  f213 := Tryz.func165.trans (congrArg some (by kernel_rfl))
  f265 := Tryz.func182.trans (congrArg some (by kernel_rfl))
  t3 := Tryz.underlying3
  a3 := Tryz.isAgg3
  z3 := Tryz.sizeOf3
  v3 := Tryz.zeroValue3
  t9 := Tryz.underlying9
  a9 := Tryz.isAgg9
  z9 := Tryz.sizeOf9
  v9 := Tryz.zeroValue9 }
open Go.RowKit in
/-- strings.Compare: "Compare returns an integer comparing two strings lexicographically. The result will be 0 if a == b, -1 if a < b, and +1 if a > b.": IT RETURNS 'Lib.compareBytes a b'; the world is as it was. (LAID: no walk: one application.) -/
theorem Tryz.strings_Compare (a b : ByteArray) (w : World) :
    Calls Tryz.prog 143 #[.string a, .string b] w fun e w' => e = .returned (.int .i64 (Lib.compareBytes a.data.toList b.data.toList)) ∧ w' = w := Any.strings_Compare Tryz.lays106 a b w
def Tryz.lays172_ren : Go.Shelf.Ren := ⟨fun | 172 => 149 | 244 => 166 | 245 => 167 | 247 => 183 | 279 => 184 | 280 => 185 | 281 => 186 | 282 => 187 | 287 => 199 | 316 => 200 | 171 => 133 | 205 => 201 | 321 => 210 | 322 => 211 | 243 => 153 | 246 => 171 | 283 => 189 | 284 => 190 | 285 => 191 | 286 => 192 | 129 => 204 | 317 => 203 | 318 => 205 | 319 => 206 | 320 => 207 | 337 => 212 | 338 => 213 | n => n, fun | 9 => 9 | 3 => 3 | 75 => 161 | 76 => 162 | 4 => 4 | 5 => 5 | 167 => 197 | 37 => 135 | 0 => 0 | 85 => 198 | 2 => 2 | 168 => 200 | 53 => 205 | 175 => 215 | 46 => 196 | 210 => 218 | 127 => 203 | 145 => 235 | 143 => 233 | 21 => 21 | 171 => 204 | 173 => 208 | 212 => 223 | 51 => 212 | 20 => 20 | 213 => 224 | 232 => 237 | 233 => 238 | 80 => 186 | n => n, fun | 15 => 1 | 16 => 2 | 17 => 3 | 18 => 6 | 19 => 7 | n => n⟩
theorem Tryz.lays172 : Go.Proofs.Lays.n172 Tryz.prog Tryz.lays172_ren := {
  mixed := by kernel_rfl
  f129 := Tryz.func204.trans (congrArg some (by kernel_rfl))
  f171 := Tryz.func133.trans (congrArg some (by kernel_rfl))
  f172 := Tryz.func149.trans (congrArg some (by kernel_rfl))
  f205 := Tryz.func201.trans (congrArg some (by kernel_rfl))
  f243 := Tryz.func153.trans (congrArg some (by kernel_rfl))
  f244 := Tryz.func166.trans (congrArg some (by kernel_rfl))
  f245 := Tryz.func167.trans (congrArg some (by kernel_rfl))
  f246 := Tryz.func171.trans (congrArg some (by kernel_rfl))
  f247 := Tryz.func183.trans (congrArg some (by kernel_rfl))
  f279 := Tryz.func184.trans (congrArg some (by kernel_rfl))
  f280 := Tryz.func185.trans (congrArg some (by kernel_rfl))
  f281 := Tryz.func186.trans (congrArg some (by kernel_rfl))
  f282 := Tryz.func187.trans (congrArg some (by kernel_rfl))
  f283 := Tryz.func189.trans (congrArg some (by kernel_rfl))
  f284 := Tryz.func190.trans (congrArg some (by kernel_rfl))
  f285 := Tryz.func191.trans (congrArg some (by kernel_rfl))
  f286 := Tryz.func192.trans (congrArg some (by kernel_rfl))
  f287 := Tryz.func199.trans (congrArg some (by kernel_rfl))
  f316 := Tryz.func200.trans (congrArg some (by kernel_rfl))
  f317 := Tryz.func203.trans (congrArg some (by kernel_rfl))
  f318 := Tryz.func205.trans (congrArg some (by kernel_rfl))
  f319 := Tryz.func206.trans (congrArg some (by kernel_rfl))
  f320 := Tryz.func207.trans (congrArg some (by kernel_rfl))
  f321 := Tryz.func210.trans (congrArg some (by kernel_rfl))
  f322 := Tryz.func211.trans (congrArg some (by kernel_rfl))
  f337 := Tryz.func212.trans (congrArg some (by kernel_rfl))
  f338 := Tryz.func213.trans (congrArg some (by kernel_rfl))
  t0 := Tryz.underlying0
  a0 := Tryz.isAgg0
  z0 := Tryz.sizeOf0
  v0 := Tryz.zeroValue0
  t2 := Tryz.underlying2
  a2 := Tryz.isAgg2
  z2 := Tryz.sizeOf2
  v2 := Tryz.zeroValue2
  t3 := Tryz.underlying3
  a3 := Tryz.isAgg3
  z3 := Tryz.sizeOf3
  v3 := Tryz.zeroValue3
  t4 := Tryz.underlying4
  a4 := Tryz.isAgg4
  z4 := Tryz.sizeOf4
  v4 := Tryz.zeroValue4
  t5 := Tryz.underlying5
  a5 := Tryz.isAgg5
  z5 := Tryz.sizeOf5
  v5 := Tryz.zeroValue5
  t9 := Tryz.underlying9
  a9 := Tryz.isAgg9
  z9 := Tryz.sizeOf9
  v9 := Tryz.zeroValue9
  t20 := Tryz.underlying20
  a20 := Tryz.isAgg20
  z20 := Tryz.sizeOf20
  v20 := Tryz.zeroValue20
  t21 := Tryz.underlying21
  a21 := Tryz.isAgg21
  z21 := Tryz.sizeOf21
  v21 := Tryz.zeroValue21
  t37 := Tryz.underlying135
  a37 := Tryz.isAgg135
  z37 := Tryz.sizeOf135
  v37 := Tryz.zeroValue135
  t46 := Tryz.underlying196
  a46 := Tryz.isAgg196
  z46 := Tryz.sizeOf196
  v46 := Tryz.zeroValue196
  t51 := Tryz.underlying212
  a51 := Tryz.isAgg212
  z51 := Tryz.sizeOf212
  v51 := Tryz.zeroValue212
  t53 := Tryz.underlying205
  a53 := Tryz.isAgg205
  z53 := Tryz.sizeOf205
  v53 := Tryz.zeroValue205
  t75 := Tryz.underlying161
  a75 := Tryz.isAgg161
  z75 := Tryz.sizeOf161
  v75 := Tryz.zeroValue161
  t76 := Tryz.underlying162
  a76 := Tryz.isAgg162
  z76 := Tryz.sizeOf162
  v76 := Tryz.zeroValue162
  t85 := Tryz.underlying198
  a85 := Tryz.isAgg198
  z85 := Tryz.sizeOf198
  v85 := Tryz.zeroValue198
  t127 := Tryz.underlying203
  a127 := Tryz.isAgg203
  z127 := Tryz.sizeOf203
  v127 := Tryz.zeroValue203
  t143 := Tryz.underlying233
  a143 := Tryz.isAgg233
  z143 := Tryz.sizeOf233
  v143 := Tryz.zeroValue233
  t145 := Tryz.underlying235
  a145 := Tryz.isAgg235
  z145 := Tryz.sizeOf235
  v145 := Tryz.zeroValue235
  t167 := Tryz.underlying197
  a167 := Tryz.isAgg197
  z167 := Tryz.sizeOf197
  v167 := Tryz.zeroValue197
  t168 := Tryz.underlying200
  a168 := Tryz.isAgg200
  z168 := Tryz.sizeOf200
  v168 := Tryz.zeroValue200
  t171 := Tryz.underlying204
  a171 := Tryz.isAgg204
  z171 := Tryz.sizeOf204
  v171 := Tryz.zeroValue204
  t173 := Tryz.underlying208
  a173 := Tryz.isAgg208
  z173 := Tryz.sizeOf208
  v173 := Tryz.zeroValue208
  t175 := Tryz.underlying215
  a175 := Tryz.isAgg215
  z175 := Tryz.sizeOf215
  v175 := Tryz.zeroValue215
  t210 := Tryz.underlying218
  a210 := Tryz.isAgg218
  z210 := Tryz.sizeOf218
  v210 := Tryz.zeroValue218
  t212 := Tryz.underlying223
  a212 := Tryz.isAgg223
  z212 := Tryz.sizeOf223
  v212 := Tryz.zeroValue223
  t213 := Tryz.underlying224
  a213 := Tryz.isAgg224
  z213 := Tryz.sizeOf224
  t232 := Tryz.underlying237
  a232 := Tryz.isAgg237
  z232 := Tryz.sizeOf237
  v232 := Tryz.zeroValue237
  t233 := Tryz.underlying238
  a233 := Tryz.isAgg238
  z233 := Tryz.sizeOf238
  v233 := Tryz.zeroValue238
  g15 := by kernel_rfl
  g16 := by kernel_rfl
  g17 := by kernel_rfl
  g18 := by kernel_rfl
  g19 := by kernel_rfl }
open Go.RowKit in
/-- strconv.Atoi: "Atoi is equivalent to ParseInt(s, 10, 0), converted to type int.": AT A DECIMAL NUMERAL OF AT MOST 18 BYTES: its value, and a nil error. The world behind the call: the one new row that the library's '[]byte(s)' lays. (LAID: no walk: one application.) -/
theorem Tryz.strconv_Atoi (s : ByteArray) (n : Int) (hl : s.size ≤ 18) (h : Lib.atoi s.data.toList = some n) (w : World) :
    Calls Tryz.prog 149 #[.string s] w fun e w' => e = .returned (.tuple #[.int .i64 n, .nilIface]) ∧ ∃ t, w' = Lib.bytesWorld w 5 t := Any.strconv_Atoi Tryz.lays172 s n hl h w
def Tryz.laysM171_ren : Go.Shelf.Ren := ⟨fun | 171 => 133 | 243 => 153 | 246 => 171 | 283 => 189 | 284 => 190 | 285 => 191 | 286 => 192 | 129 => 204 | 317 => 203 | 318 => 205 | 319 => 206 | 320 => 207 | 337 => 212 | 338 => 213 | n => n, fun | 3 => 3 | 9 => 9 | 2 => 2 | 4 => 4 | 171 => 204 | 0 => 0 | 53 => 205 | 37 => 135 | 5 => 5 | 173 => 208 | 212 => 223 | 51 => 212 | 20 => 20 | 213 => 224 | 46 => 196 | 232 => 237 | 233 => 238 | n => n, fun | 17 => 3 | 18 => 6 | 19 => 7 | n => n⟩
theorem Tryz.laysM171 : Go.Proofs.LaysM.n171 Tryz.prog Tryz.laysM171_ren := {
  mixed := by kernel_rfl
  f129 := Tryz.func204.trans (congrArg some (by kernel_rfl))
  f171 := Tryz.func133.trans (congrArg some (by kernel_rfl))
  f243 := Tryz.func153.trans (congrArg some (by kernel_rfl))
  f246 := Tryz.func171.trans (congrArg some (by kernel_rfl))
  f283 := Tryz.func189.trans (congrArg some (by kernel_rfl))
  f284 := Tryz.func190.trans (congrArg some (by kernel_rfl))
  f285 := Tryz.func191.trans (congrArg some (by kernel_rfl))
  f286 := Tryz.func192.trans (congrArg some (by kernel_rfl))
  f317 := Tryz.func203.trans (congrArg some (by kernel_rfl))
  f318 := Tryz.func205.trans (congrArg some (by kernel_rfl))
  f319 := Tryz.func206.trans (congrArg some (by kernel_rfl))
  f320 := Tryz.func207.trans (congrArg some (by kernel_rfl))
  f337 := Tryz.func212.trans (congrArg some (by kernel_rfl))
  f338 := Tryz.func213.trans (congrArg some (by kernel_rfl))
  t0 := Tryz.underlying0
  a0 := Tryz.isAgg0
  z0 := Tryz.sizeOf0
  v0 := Tryz.zeroValue0
  t2 := Tryz.underlying2
  a2 := Tryz.isAgg2
  z2 := Tryz.sizeOf2
  v2 := Tryz.zeroValue2
  t3 := Tryz.underlying3
  a3 := Tryz.isAgg3
  z3 := Tryz.sizeOf3
  v3 := Tryz.zeroValue3
  t4 := Tryz.underlying4
  a4 := Tryz.isAgg4
  z4 := Tryz.sizeOf4
  v4 := Tryz.zeroValue4
  t5 := Tryz.underlying5
  a5 := Tryz.isAgg5
  z5 := Tryz.sizeOf5
  v5 := Tryz.zeroValue5
  t9 := Tryz.underlying9
  a9 := Tryz.isAgg9
  z9 := Tryz.sizeOf9
  v9 := Tryz.zeroValue9
  t20 := Tryz.underlying20
  a20 := Tryz.isAgg20
  z20 := Tryz.sizeOf20
  v20 := Tryz.zeroValue20
  t37 := Tryz.underlying135
  a37 := Tryz.isAgg135
  z37 := Tryz.sizeOf135
  v37 := Tryz.zeroValue135
  t46 := Tryz.underlying196
  a46 := Tryz.isAgg196
  z46 := Tryz.sizeOf196
  v46 := Tryz.zeroValue196
  t51 := Tryz.underlying212
  a51 := Tryz.isAgg212
  z51 := Tryz.sizeOf212
  v51 := Tryz.zeroValue212
  t53 := Tryz.underlying205
  a53 := Tryz.isAgg205
  z53 := Tryz.sizeOf205
  v53 := Tryz.zeroValue205
  t171 := Tryz.underlying204
  a171 := Tryz.isAgg204
  z171 := Tryz.sizeOf204
  v171 := Tryz.zeroValue204
  t173 := Tryz.underlying208
  a173 := Tryz.isAgg208
  z173 := Tryz.sizeOf208
  v173 := Tryz.zeroValue208
  t212 := Tryz.underlying223
  a212 := Tryz.isAgg223
  z212 := Tryz.sizeOf223
  v212 := Tryz.zeroValue223
  t213 := Tryz.underlying224
  a213 := Tryz.isAgg224
  z213 := Tryz.sizeOf224
  t232 := Tryz.underlying237
  a232 := Tryz.isAgg237
  z232 := Tryz.sizeOf237
  v232 := Tryz.zeroValue237
  t233 := Tryz.underlying238
  a233 := Tryz.isAgg238
  z233 := Tryz.sizeOf238
  v233 := Tryz.zeroValue238
  g17 := by kernel_rfl
  g18 := by kernel_rfl
  g19 := by kernel_rfl
  i0 := by kernel_rfl
  i2 := by kernel_rfl
  i3 := by kernel_rfl
  i4 := by kernel_rfl
  i5 := by kernel_rfl
  i9 := by kernel_rfl
  i20 := by kernel_rfl
  i37 := by kernel_rfl
  i46 := by kernel_rfl
  i51 := by kernel_rfl
  i53 := by kernel_rfl
  i171 := by kernel_rfl
  i173 := by kernel_rfl
  i212 := by kernel_rfl
  i232 := by kernel_rfl
  i233 := by kernel_rfl
  m17 := by kernel_rfl
  m18 := by kernel_rfl
  m19 := by kernel_rfl }
open Go.RowKit Go.Sort Go.Lib in
/-- strconv.Itoa: "Itoa is equivalent to FormatInt(int64(i), 10).": i's DECIMAL NUMERAL ('Lib.itoa': a '-' where i is negative, then the digits), FOR EVERY int. The world behind the call: the world before it, new blocks behind the heap (the library's 'var a [24]byte'), draws. (LAID: no walk: one application.) -/
theorem Tryz.strconv_Itoa (n : Int) (h0 : -9223372036854775808 ≤ n) (h1 : n ≤ 9223372036854775807) (w : World) (htab : Lib.TabIs Tryz.prog w "internal/strconv.uint64pow10" .u64 Lib.pow10Tab) :
    Calls Tryz.prog 133 #[.int .i64 n] w fun e w' => e = .returned (.string ⟨(Lib.itoa n).toArray⟩) ∧ ∃ k os, w' = grow (w.drewN k) os := Any.strconv_Itoa Tryz.laysM171 n h0 h1 w htab
def Tryz.laysM145_ren : Go.Shelf.Ren := ⟨fun | 145 => 117 | 220 => 142 | 219 => 164 | 217 => 178 | 225 => 179 | 224 => 180 | 267 => 181 | 266 => 197 | 314 => 198 | n => n, fun | 9 => 9 | 4 => 4 | 59 => 138 | 3 => 3 | 5 => 5 | 46 => 196 | 146 => 213 | 51 => 212 | n => n, fun | 1 => 0 | n => n⟩
theorem Tryz.laysM145 : Go.Proofs.LaysM.n145 Tryz.prog Tryz.laysM145_ren := {
  mixed := by kernel_rfl
  f145 := Tryz.func117.trans (congrArg some (by kernel_rfl))
  f217 := Tryz.func178.trans (congrArg some (by kernel_rfl))
  f219 := Tryz.func164.trans (congrArg some (by kernel_rfl))
  f220 := Tryz.func142.trans (congrArg some (by kernel_rfl))
  f224 := Tryz.func180.trans (congrArg some (by kernel_rfl))
  f225 := Tryz.func179.trans (congrArg some (by kernel_rfl))
  f266 := Tryz.func197.trans (congrArg some (by kernel_rfl))
  f267 := Tryz.func181.trans (congrArg some (by kernel_rfl))
  f314 := Tryz.func198.trans (congrArg some (by kernel_rfl))
  t3 := Tryz.underlying3
  a3 := Tryz.isAgg3
  z3 := Tryz.sizeOf3
  v3 := Tryz.zeroValue3
  t4 := Tryz.underlying4
  a4 := Tryz.isAgg4
  z4 := Tryz.sizeOf4
  v4 := Tryz.zeroValue4
  t5 := Tryz.underlying5
  a5 := Tryz.isAgg5
  z5 := Tryz.sizeOf5
  v5 := Tryz.zeroValue5
  t9 := Tryz.underlying9
  a9 := Tryz.isAgg9
  z9 := Tryz.sizeOf9
  v9 := Tryz.zeroValue9
  t46 := Tryz.underlying196
  a46 := Tryz.isAgg196
  z46 := Tryz.sizeOf196
  v46 := Tryz.zeroValue196
  t51 := Tryz.underlying212
  a51 := Tryz.isAgg212
  z51 := Tryz.sizeOf212
  v51 := Tryz.zeroValue212
  t59 := Tryz.underlying138
  a59 := Tryz.isAgg138
  z59 := Tryz.sizeOf138
  v59 := Tryz.zeroValue138
  t146 := Tryz.underlying213
  a146 := Tryz.isAgg213
  z146 := Tryz.sizeOf213
  v146 := Tryz.zeroValue213
  g1 := by kernel_rfl
  i3 := by kernel_rfl
  i4 := by kernel_rfl
  i5 := by kernel_rfl
  i9 := by kernel_rfl
  i46 := by kernel_rfl
  i51 := by kernel_rfl
  i59 := by kernel_rfl
  i146 := by kernel_rfl
  m1 := by kernel_rfl
  s1_3 := fun w h => Go.Proofs.cell_of_shapedOpen_int (zero := #[.int .i64 0]) (t := 3) h (of_decide_eq_true (by kernel_rfl)) (by kernel_rfl) rfl (by kernel_rfl) (by kernel_rfl) Tryz.underlying3 }
open Go.RowKit Go.Lib in
theorem Tryz.strings_Cut_shaped (s sep : ByteArray) (w : World) (h : w.ShapedOpen Tryz.prog) (hs : s.size < 4294967281) :
    Calls Tryz.prog 117 #[.string s, .string sep] w fun e w' => e = .returned (.tuple #[.string ⟨(Lib.cut s.data.toList sep.data.toList).1.toArray⟩, .string ⟨(Lib.cut s.data.toList sep.data.toList).2.1.toArray⟩, .bool (Lib.cut s.data.toList sep.data.toList).2.2]) ∧ ∃ n, w' = w.drewN n := Any.strings_Cut_shaped Tryz.laysM145 s sep w h hs
def Tryz.lays99_ren : Go.Shelf.Ren := ⟨fun | 99 => 135 | 206 => 155 | n => n, fun | 9 => 9 | 4 => 4 | 3 => 3 | n => n, fun | n => n⟩
theorem Tryz.lays99 : Go.Proofs.Lays.n99 Tryz.prog Tryz.lays99_ren := {
  mixed := by kernel_rfl
  f99 := Tryz.func135.trans (congrArg some (by kernel_rfl))
  f206 := Tryz.func155.trans (congrArg some (by kernel_rfl))
  t3 := Tryz.underlying3
  a3 := Tryz.isAgg3
  z3 := Tryz.sizeOf3
  v3 := Tryz.zeroValue3
  t4 := Tryz.underlying4
  a4 := Tryz.isAgg4
  z4 := Tryz.sizeOf4
  v4 := Tryz.zeroValue4
  t9 := Tryz.underlying9
  a9 := Tryz.isAgg9
  z9 := Tryz.sizeOf9
  v9 := Tryz.zeroValue9 }
open Go.RowKit Go.Lib in
/-- strings.HasPrefix: "HasPrefix reports whether the string s begins with prefix.": IT RETURNS 'Lib.hasPrefix s prefix'; the world is as it was. (LAID: no walk: one application.) -/
theorem Tryz.strings_HasPrefix (s p : ByteArray) (w : World) :
    Calls Tryz.prog 135 #[.string s, .string p] w fun e w' => e = .returned (.bool (Lib.hasPrefix s.data.toList p.data.toList)) ∧ w' = w := Any.strings_HasPrefix Tryz.lays99 s p w
def Tryz.lays101_ren : Go.Shelf.Ren := ⟨fun | 101 => 120 | 208 => 144 | 206 => 155 | n => n, fun | 9 => 9 | 4 => 4 | 3 => 3 | n => n, fun | n => n⟩
theorem Tryz.lays101 : Go.Proofs.Lays.n101 Tryz.prog Tryz.lays101_ren := {
  mixed := by kernel_rfl
  f101 := Tryz.func120.trans (congrArg some (by kernel_rfl))
  f206 := Tryz.func155.trans (congrArg some (by kernel_rfl))
  f208 := Tryz.func144.trans (congrArg some (by kernel_rfl))
  t3 := Tryz.underlying3
  a3 := Tryz.isAgg3
  z3 := Tryz.sizeOf3
  v3 := Tryz.zeroValue3
  t4 := Tryz.underlying4
  a4 := Tryz.isAgg4
  z4 := Tryz.sizeOf4
  v4 := Tryz.zeroValue4
  t9 := Tryz.underlying9
  a9 := Tryz.isAgg9
  z9 := Tryz.sizeOf9
  v9 := Tryz.zeroValue9 }
open Go.RowKit Go.Lib in
/-- strings.TrimPrefix: "TrimPrefix returns s without the provided leading prefix string. If s doesn't start with prefix, s is returned unchanged.": IT RETURNS 'Lib.trimPrefix s prefix'; the world is as it was. (LAID: no walk: one application.) -/
theorem Tryz.strings_TrimPrefix (s p : ByteArray) (w : World) :
    Calls Tryz.prog 120 #[.string s, .string p] w fun e w' => e = .returned (.string ⟨(Lib.trimPrefix s.data.toList p.data.toList).toArray⟩) ∧ w' = w := Any.strings_TrimPrefix Tryz.lays101 s p w
def Tryz.lays160_ren : Go.Shelf.Ren := ⟨fun | 160 => 139 | 232 => 158 | 231 => 157 | 227 => 159 | 234 => 161 | 233 => 160 | 236 => 163 | 235 => 162 | 228 => 174 | 271 => 177 | 151 => 176 | 197 => 175 | 120 => 196 | 152 => 195 | 260 => 194 | 137 => 208 | 119 => 209 | 224 => 180 | 225 => 179 | 217 => 178 | 266 => 197 | n => n, fun | 9 => 9 | 4 => 4 | 3 => 3 | 5 => 5 | 117 => 177 | 116 => 176 | 0 => 0 | 124 => 180 | 21 => 21 | 105 => 191 | 46 => 196 | 119 => 226 | 139 => 229 | 138 => 228 | n => n, fun | 3 => 4 | 4 => 5 | n => n⟩
theorem Tryz.lays160 : Go.Proofs.Lays.n160 Tryz.prog Tryz.lays160_ren := {
  mixed := by kernel_rfl
  f119 := Tryz.func209.trans (congrArg some (by kernel_rfl))
  f120 := Tryz.func196.trans (congrArg some (by kernel_rfl))
  f137 := Tryz.func208.trans (congrArg some (by kernel_rfl))
  f151 := Tryz.func176.trans (congrArg some (by kernel_rfl))
  f152 := Tryz.func195.trans (congrArg some (by kernel_rfl))
  f160 := Tryz.func139.trans (congrArg some (by kernel_rfl))
  f197 := Tryz.func175.trans (congrArg some (by kernel_rfl))
  f217 := Tryz.func178.trans (congrArg some (by kernel_rfl))
  f224 := Tryz.func180.trans (congrArg some (by kernel_rfl))
  f225 := Tryz.func179.trans (congrArg some (by kernel_rfl))
  f227 := Tryz.func159.trans (congrArg some (by kernel_rfl))
  f228 := Tryz.func174.trans (congrArg some (by kernel_rfl))
  f231 := Tryz.func157.trans (congrArg some (by kernel_rfl))
  f232 := Tryz.func158.trans (congrArg some (by kernel_rfl))
  f233 := Tryz.func160.trans (congrArg some (by kernel_rfl))
  f234 := Tryz.func161.trans (congrArg some (by kernel_rfl))
  f235 := Tryz.func162.trans (congrArg some (by kernel_rfl))
  f236 := Tryz.func163.trans (congrArg some (by kernel_rfl))
  f260 := Tryz.func194.trans (congrArg some (by kernel_rfl))
  f266 := Tryz.func197.trans (congrArg some (by kernel_rfl))
  f271 := Tryz.func177.trans (congrArg some (by kernel_rfl))
  t0 := Tryz.underlying0
  a0 := Tryz.isAgg0
  z0 := Tryz.sizeOf0
  v0 := Tryz.zeroValue0
  t3 := Tryz.underlying3
  a3 := Tryz.isAgg3
  z3 := Tryz.sizeOf3
  v3 := Tryz.zeroValue3
  t4 := Tryz.underlying4
  a4 := Tryz.isAgg4
  z4 := Tryz.sizeOf4
  v4 := Tryz.zeroValue4
  t5 := Tryz.underlying5
  a5 := Tryz.isAgg5
  z5 := Tryz.sizeOf5
  v5 := Tryz.zeroValue5
  t9 := Tryz.underlying9
  a9 := Tryz.isAgg9
  z9 := Tryz.sizeOf9
  v9 := Tryz.zeroValue9
  t21 := Tryz.underlying21
  a21 := Tryz.isAgg21
  z21 := Tryz.sizeOf21
  v21 := Tryz.zeroValue21
  t46 := Tryz.underlying196
  a46 := Tryz.isAgg196
  z46 := Tryz.sizeOf196
  v46 := Tryz.zeroValue196
  t105 := Tryz.underlying191
  a105 := Tryz.isAgg191
  z105 := Tryz.sizeOf191
  v105 := Tryz.zeroValue191
  t116 := Tryz.underlying176
  a116 := Tryz.isAgg176
  z116 := Tryz.sizeOf176
  t117 := Tryz.underlying177
  a117 := Tryz.isAgg177
  z117 := Tryz.sizeOf177
  v117 := Tryz.zeroValue177
  t119 := Tryz.underlying226
  a119 := Tryz.isAgg226
  z119 := Tryz.sizeOf226
  t124 := Tryz.underlying180
  a124 := Tryz.isAgg180
  z124 := Tryz.sizeOf180
  v124 := Tryz.zeroValue180
  t138 := Tryz.underlying228
  a138 := Tryz.isAgg228
  z138 := Tryz.sizeOf228
  v138 := Tryz.zeroValue228
  t139 := Tryz.underlying229
  a139 := Tryz.isAgg229
  z139 := Tryz.sizeOf229
  v139 := Tryz.zeroValue229
  g3 := by kernel_rfl
  g4 := by kernel_rfl }
end Go.Proofs
