/-
  DERIVED: THE SHELF's CONTRACTS AT THIS DUMP, IN PLAIN WORDS (tools/lay-plain.mjs out of 'YtdkilkliccljeaaGreatDoorShelf.lean', which tools/lay-shelf.mjs wrote): THE SAME DECLARATIONS UNDER THE SAME NAMES: 'import', 'namespace', 'open', 'def', 'theorem' AND NOTHING ELSE: no command of the shelf's: FOR A HAND-IN. Each laying: the table of numbers ('.._ren') and one theorem, a field a fact of the dump's own or the kernel's comparison; each contract: ONE APPLICATION.
-/
import Derived.Shelf.Strings.SlTrimAscii
import Derived.Shelf.Strings.Builder1
import Derived.Shelf.Strings.Trim
import Derived.Shelf.Small.Utf8
import Derived.Shelf.Small.Strs
import Derived.Shelf.Strings.BuilderF
import Derived.Shelf.Strings.BuilderK
import Derived.Shelf.Strconv.Atoi
import Derived.Shelf.Strconv.Itoa0
import Derived.Shelf.Strconv.Itoa1
import Derived.Shelf.LaysM
import Derived.Shelf.Strconv.Itoa2
import Derived.Shelf.Strconv.Itoa3
import Derived.Shelf.Strings.Search1
import Derived.Shelf.Strings.Search2
import Derived.Shelf.Strings.Cut
import Derived.Shelf.Strings.Shaped
import Derived.Shelf.Strings.Prefix
import Derived.Shelf.Strings.Runes
import Derived.Shelf.Strings.AsciiSet
import Derived.Shelf.Bits.Mul64
import Derived.Shelf.Unicode.DecodeSlow
import Derived.Test.YtdkilkliccljeaaGreatDoorProg
namespace Go.Proofs
open Go.Shelf
def Tryz.lays169_ren : Go.Shelf.Ren := ⟨fun | 169 => 199 | n => n, fun | 70 => 241 | 9 => 9 | 0 => 0 | 72 => 243 | 37 => 151 | 127 => 259 | 3 => 3 | 5 => 5 | n => n, fun | n => n⟩
theorem Tryz.lays169 : Go.Proofs.Lays.n169 Tryz.prog Tryz.lays169_ren := {
  mixed := by kernel_rfl
  f169 := Tryz.func199.trans (congrArg some (by kernel_rfl))
  t0 := Tryz.underlying0
  a0 := Tryz.isAgg0
  z0 := Tryz.sizeOf0
  v0 := Tryz.zeroValue0
  t3 := Tryz.underlying3
  a3 := Tryz.isAgg3
  z3 := Tryz.sizeOf3
  v3 := Tryz.zeroValue3
  t9 := Tryz.underlying9
  a9 := Tryz.isAgg9
  z9 := Tryz.sizeOf9
  v9 := Tryz.zeroValue9
  t37 := Tryz.underlying151
  a37 := Tryz.isAgg151
  z37 := Tryz.sizeOf151
  v37 := Tryz.zeroValue151
  t70 := Tryz.underlying241
  a70 := Tryz.isAgg241
  z70 := Tryz.sizeOf241
  v70 := Tryz.zeroValue241
  t72 := Tryz.underlying243
  a72 := Tryz.isAgg243
  z72 := Tryz.sizeOf243
  v72 := Tryz.zeroValue243
  t127 := Tryz.underlying259
  a127 := Tryz.isAgg259
  z127 := Tryz.sizeOf259
  v127 := Tryz.zeroValue259 }
theorem Tryz.Builder_Extra_169 : Builder.Extra Tryz.prog Tryz.lays169_ren := {
  sizeBuilder := by kernel_rfl
  liesBuilder := by kernel_rfl
  t5 := Tryz.underlying5
  a5 := Tryz.isAgg5
  z5 := Tryz.sizeOf5
  v5 := Tryz.zeroValue5
  infoByte := by kernel_rfl
  cellsByte := by kernel_rfl
  sizeByte := by kernel_rfl
  neB5 := by decide }
open Go.RowKit in
/-- (*strings.Builder).String: "String returns the accumulated string.": WHATEVER THE BUILDER HOLDS. (LAID: no walk: one application.) -/
theorem Tryz.Builder_String_any (B b : Nat) (l : List UInt8) (w : World) (h : Lib.IsBuilder 243 5 B b (Lib.byteCells l) w) (hBw : B ≤ w.heap.size) :
    Calls Tryz.prog 199 #[.pointer (some ⟨b, 0, none⟩)] w fun e w' => e = .returned (.string ⟨l.toArray⟩) ∧ Below B w w' := Any.Builder_String_any Tryz.lays169 Tryz.Builder_Extra_169 B b l w h hBw
def Tryz.lays106_ren : Go.Shelf.Ren := ⟨fun | 106 => 194 | 213 => 213 | 265 => 234 | n => n, fun | 9 => 9 | 3 => 3 | n => n, fun | n => n⟩
theorem Tryz.lays106 : Go.Proofs.Lays.n106 Tryz.prog Tryz.lays106_ren := {
  mixed := by kernel_rfl
  f106 := Tryz.func194.trans (congrArg some (by kernel_rfl))
  f213 := Tryz.func213.trans (congrArg some (by kernel_rfl))
  f265 := Tryz.func234.trans (congrArg some (by kernel_rfl))
  t3 := Tryz.underlying3
  a3 := Tryz.isAgg3
  z3 := Tryz.sizeOf3
  v3 := Tryz.zeroValue3
  t9 := Tryz.underlying9
  a9 := Tryz.isAgg9
  z9 := Tryz.sizeOf9
  v9 := Tryz.zeroValue9 }
open Go.RowKit in
/-- strings.Compare: "Compare returns an integer comparing two strings lexicographically. The result will be 0 if a == b, -1 if a < b, and +1 if a > b.": IT RETURNS 'Lib.compareBytes a b'; the world is as it was. (LAID: no walk: one application.) -/
theorem Tryz.strings_Compare (a b : ByteArray) (w : World) :
    Calls Tryz.prog 194 #[.string a, .string b] w fun e w' => e = .returned (.int .i64 (Lib.compareBytes a.data.toList b.data.toList)) ∧ w' = w := Any.strings_Compare Tryz.lays106 a b w
def Tryz.lays172_ren : Go.Shelf.Ren := ⟨fun | 172 => 181 | 244 => 203 | 245 => 204 | 247 => 221 | 279 => 222 | 280 => 223 | 281 => 224 | 282 => 225 | 287 => 238 | 316 => 239 | 171 => 137 | 205 => 240 | 321 => 245 | 322 => 246 | 243 => 166 | 246 => 185 | 283 => 205 | 284 => 206 | 285 => 207 | 286 => 208 | 129 => 227 | 317 => 226 | 318 => 228 | 319 => 229 | 320 => 230 | 337 => 241 | 338 => 242 | n => n, fun | 9 => 9 | 3 => 3 | 75 => 225 | 76 => 226 | 4 => 4 | 5 => 5 | 167 => 262 | 37 => 151 | 0 => 0 | 85 => 263 | 2 => 2 | 168 => 265 | 53 => 220 | 175 => 276 | 46 => 196 | 210 => 279 | 127 => 259 | 145 => 291 | 143 => 289 | 21 => 21 | 171 => 249 | 173 => 252 | 212 => 269 | 51 => 217 | 20 => 20 | 213 => 270 | 232 => 292 | 233 => 293 | 80 => 245 | n => n, fun | 15 => 2 | 16 => 3 | 17 => 1 | 18 => 6 | 19 => 7 | n => n⟩
theorem Tryz.lays172 : Go.Proofs.Lays.n172 Tryz.prog Tryz.lays172_ren := {
  mixed := by kernel_rfl
  f129 := Tryz.func227.trans (congrArg some (by kernel_rfl))
  f171 := Tryz.func137.trans (congrArg some (by kernel_rfl))
  f172 := Tryz.func181.trans (congrArg some (by kernel_rfl))
  f205 := Tryz.func240.trans (congrArg some (by kernel_rfl))
  f243 := Tryz.func166.trans (congrArg some (by kernel_rfl))
  f244 := Tryz.func203.trans (congrArg some (by kernel_rfl))
  f245 := Tryz.func204.trans (congrArg some (by kernel_rfl))
  f246 := Tryz.func185.trans (congrArg some (by kernel_rfl))
  f247 := Tryz.func221.trans (congrArg some (by kernel_rfl))
  f279 := Tryz.func222.trans (congrArg some (by kernel_rfl))
  f280 := Tryz.func223.trans (congrArg some (by kernel_rfl))
  f281 := Tryz.func224.trans (congrArg some (by kernel_rfl))
  f282 := Tryz.func225.trans (congrArg some (by kernel_rfl))
  f283 := Tryz.func205.trans (congrArg some (by kernel_rfl))
  f284 := Tryz.func206.trans (congrArg some (by kernel_rfl))
  f285 := Tryz.func207.trans (congrArg some (by kernel_rfl))
  f286 := Tryz.func208.trans (congrArg some (by kernel_rfl))
  f287 := Tryz.func238.trans (congrArg some (by kernel_rfl))
  f316 := Tryz.func239.trans (congrArg some (by kernel_rfl))
  f317 := Tryz.func226.trans (congrArg some (by kernel_rfl))
  f318 := Tryz.func228.trans (congrArg some (by kernel_rfl))
  f319 := Tryz.func229.trans (congrArg some (by kernel_rfl))
  f320 := Tryz.func230.trans (congrArg some (by kernel_rfl))
  f321 := Tryz.func245.trans (congrArg some (by kernel_rfl))
  f322 := Tryz.func246.trans (congrArg some (by kernel_rfl))
  f337 := Tryz.func241.trans (congrArg some (by kernel_rfl))
  f338 := Tryz.func242.trans (congrArg some (by kernel_rfl))
  t0 := Tryz.underlying0
  a0 := Tryz.isAgg0
  z0 := Tryz.sizeOf0
  v0 := Tryz.zeroValue0
  t2 := Tryz.underlying2
  a2 := Tryz.isAgg2
  z2 := Tryz.sizeOf2
  v2 := Tryz.zeroValue2
  t3 := Tryz.underlying3
  a3 := Tryz.isAgg3
  z3 := Tryz.sizeOf3
  v3 := Tryz.zeroValue3
  t4 := Tryz.underlying4
  a4 := Tryz.isAgg4
  z4 := Tryz.sizeOf4
  v4 := Tryz.zeroValue4
  t5 := Tryz.underlying5
  a5 := Tryz.isAgg5
  z5 := Tryz.sizeOf5
  v5 := Tryz.zeroValue5
  t9 := Tryz.underlying9
  a9 := Tryz.isAgg9
  z9 := Tryz.sizeOf9
  v9 := Tryz.zeroValue9
  t20 := Tryz.underlying20
  a20 := Tryz.isAgg20
  z20 := Tryz.sizeOf20
  v20 := Tryz.zeroValue20
  t21 := Tryz.underlying21
  a21 := Tryz.isAgg21
  z21 := Tryz.sizeOf21
  v21 := Tryz.zeroValue21
  t37 := Tryz.underlying151
  a37 := Tryz.isAgg151
  z37 := Tryz.sizeOf151
  v37 := Tryz.zeroValue151
  t46 := Tryz.underlying196
  a46 := Tryz.isAgg196
  z46 := Tryz.sizeOf196
  v46 := Tryz.zeroValue196
  t51 := Tryz.underlying217
  a51 := Tryz.isAgg217
  z51 := Tryz.sizeOf217
  v51 := Tryz.zeroValue217
  t53 := Tryz.underlying220
  a53 := Tryz.isAgg220
  z53 := Tryz.sizeOf220
  v53 := Tryz.zeroValue220
  t75 := Tryz.underlying225
  a75 := Tryz.isAgg225
  z75 := Tryz.sizeOf225
  v75 := Tryz.zeroValue225
  t76 := Tryz.underlying226
  a76 := Tryz.isAgg226
  z76 := Tryz.sizeOf226
  v76 := Tryz.zeroValue226
  t85 := Tryz.underlying263
  a85 := Tryz.isAgg263
  z85 := Tryz.sizeOf263
  v85 := Tryz.zeroValue263
  t127 := Tryz.underlying259
  a127 := Tryz.isAgg259
  z127 := Tryz.sizeOf259
  v127 := Tryz.zeroValue259
  t143 := Tryz.underlying289
  a143 := Tryz.isAgg289
  z143 := Tryz.sizeOf289
  v143 := Tryz.zeroValue289
  t145 := Tryz.underlying291
  a145 := Tryz.isAgg291
  z145 := Tryz.sizeOf291
  v145 := Tryz.zeroValue291
  t167 := Tryz.underlying262
  a167 := Tryz.isAgg262
  z167 := Tryz.sizeOf262
  v167 := Tryz.zeroValue262
  t168 := Tryz.underlying265
  a168 := Tryz.isAgg265
  z168 := Tryz.sizeOf265
  v168 := Tryz.zeroValue265
  t171 := Tryz.underlying249
  a171 := Tryz.isAgg249
  z171 := Tryz.sizeOf249
  v171 := Tryz.zeroValue249
  t173 := Tryz.underlying252
  a173 := Tryz.isAgg252
  z173 := Tryz.sizeOf252
  v173 := Tryz.zeroValue252
  t175 := Tryz.underlying276
  a175 := Tryz.isAgg276
  z175 := Tryz.sizeOf276
  v175 := Tryz.zeroValue276
  t210 := Tryz.underlying279
  a210 := Tryz.isAgg279
  z210 := Tryz.sizeOf279
  v210 := Tryz.zeroValue279
  t212 := Tryz.underlying269
  a212 := Tryz.isAgg269
  z212 := Tryz.sizeOf269
  v212 := Tryz.zeroValue269
  t213 := Tryz.underlying270
  a213 := Tryz.isAgg270
  z213 := Tryz.sizeOf270
  t232 := Tryz.underlying292
  a232 := Tryz.isAgg292
  z232 := Tryz.sizeOf292
  v232 := Tryz.zeroValue292
  t233 := Tryz.underlying293
  a233 := Tryz.isAgg293
  z233 := Tryz.sizeOf293
  v233 := Tryz.zeroValue293
  g15 := by kernel_rfl
  g16 := by kernel_rfl
  g17 := by kernel_rfl
  g18 := by kernel_rfl
  g19 := by kernel_rfl }
open Go.RowKit in
/-- strconv.Atoi: "Atoi is equivalent to ParseInt(s, 10, 0), converted to type int.": AT A DECIMAL NUMERAL OF AT MOST 18 BYTES: its value, and a nil error. The world behind the call: the one new row that the library's '[]byte(s)' lays. (LAID: no walk: one application.) -/
theorem Tryz.strconv_Atoi (s : ByteArray) (n : Int) (hl : s.size ≤ 18) (h : Lib.atoi s.data.toList = some n) (w : World) :
    Calls Tryz.prog 181 #[.string s] w fun e w' => e = .returned (.tuple #[.int .i64 n, .nilIface]) ∧ ∃ t, w' = Lib.bytesWorld w 5 t := Any.strconv_Atoi Tryz.lays172 s n hl h w
def Tryz.laysM171_ren : Go.Shelf.Ren := ⟨fun | 171 => 137 | 243 => 166 | 246 => 185 | 283 => 205 | 284 => 206 | 285 => 207 | 286 => 208 | 129 => 227 | 317 => 226 | 318 => 228 | 319 => 229 | 320 => 230 | 337 => 241 | 338 => 242 | n => n, fun | 3 => 3 | 9 => 9 | 2 => 2 | 4 => 4 | 171 => 249 | 0 => 0 | 53 => 220 | 37 => 151 | 5 => 5 | 173 => 252 | 212 => 269 | 51 => 217 | 20 => 20 | 213 => 270 | 46 => 196 | 232 => 292 | 233 => 293 | n => n, fun | 17 => 1 | 18 => 6 | 19 => 7 | n => n⟩
theorem Tryz.laysM171 : Go.Proofs.LaysM.n171 Tryz.prog Tryz.laysM171_ren := {
  mixed := by kernel_rfl
  f129 := Tryz.func227.trans (congrArg some (by kernel_rfl))
  f171 := Tryz.func137.trans (congrArg some (by kernel_rfl))
  f243 := Tryz.func166.trans (congrArg some (by kernel_rfl))
  f246 := Tryz.func185.trans (congrArg some (by kernel_rfl))
  f283 := Tryz.func205.trans (congrArg some (by kernel_rfl))
  f284 := Tryz.func206.trans (congrArg some (by kernel_rfl))
  f285 := Tryz.func207.trans (congrArg some (by kernel_rfl))
  f286 := Tryz.func208.trans (congrArg some (by kernel_rfl))
  f317 := Tryz.func226.trans (congrArg some (by kernel_rfl))
  f318 := Tryz.func228.trans (congrArg some (by kernel_rfl))
  f319 := Tryz.func229.trans (congrArg some (by kernel_rfl))
  f320 := Tryz.func230.trans (congrArg some (by kernel_rfl))
  f337 := Tryz.func241.trans (congrArg some (by kernel_rfl))
  f338 := Tryz.func242.trans (congrArg some (by kernel_rfl))
  t0 := Tryz.underlying0
  a0 := Tryz.isAgg0
  z0 := Tryz.sizeOf0
  v0 := Tryz.zeroValue0
  t2 := Tryz.underlying2
  a2 := Tryz.isAgg2
  z2 := Tryz.sizeOf2
  v2 := Tryz.zeroValue2
  t3 := Tryz.underlying3
  a3 := Tryz.isAgg3
  z3 := Tryz.sizeOf3
  v3 := Tryz.zeroValue3
  t4 := Tryz.underlying4
  a4 := Tryz.isAgg4
  z4 := Tryz.sizeOf4
  v4 := Tryz.zeroValue4
  t5 := Tryz.underlying5
  a5 := Tryz.isAgg5
  z5 := Tryz.sizeOf5
  v5 := Tryz.zeroValue5
  t9 := Tryz.underlying9
  a9 := Tryz.isAgg9
  z9 := Tryz.sizeOf9
  v9 := Tryz.zeroValue9
  t20 := Tryz.underlying20
  a20 := Tryz.isAgg20
  z20 := Tryz.sizeOf20
  v20 := Tryz.zeroValue20
  t37 := Tryz.underlying151
  a37 := Tryz.isAgg151
  z37 := Tryz.sizeOf151
  v37 := Tryz.zeroValue151
  t46 := Tryz.underlying196
  a46 := Tryz.isAgg196
  z46 := Tryz.sizeOf196
  v46 := Tryz.zeroValue196
  t51 := Tryz.underlying217
  a51 := Tryz.isAgg217
  z51 := Tryz.sizeOf217
  v51 := Tryz.zeroValue217
  t53 := Tryz.underlying220
  a53 := Tryz.isAgg220
  z53 := Tryz.sizeOf220
  v53 := Tryz.zeroValue220
  t171 := Tryz.underlying249
  a171 := Tryz.isAgg249
  z171 := Tryz.sizeOf249
  v171 := Tryz.zeroValue249
  t173 := Tryz.underlying252
  a173 := Tryz.isAgg252
  z173 := Tryz.sizeOf252
  v173 := Tryz.zeroValue252
  t212 := Tryz.underlying269
  a212 := Tryz.isAgg269
  z212 := Tryz.sizeOf269
  v212 := Tryz.zeroValue269
  t213 := Tryz.underlying270
  a213 := Tryz.isAgg270
  z213 := Tryz.sizeOf270
  t232 := Tryz.underlying292
  a232 := Tryz.isAgg292
  z232 := Tryz.sizeOf292
  v232 := Tryz.zeroValue292
  t233 := Tryz.underlying293
  a233 := Tryz.isAgg293
  z233 := Tryz.sizeOf293
  v233 := Tryz.zeroValue293
  g17 := by kernel_rfl
  g18 := by kernel_rfl
  g19 := by kernel_rfl
  i0 := by kernel_rfl
  i2 := by kernel_rfl
  i3 := by kernel_rfl
  i4 := by kernel_rfl
  i5 := by kernel_rfl
  i9 := by kernel_rfl
  i20 := by kernel_rfl
  i37 := by kernel_rfl
  i46 := by kernel_rfl
  i51 := by kernel_rfl
  i53 := by kernel_rfl
  i171 := by kernel_rfl
  i173 := by kernel_rfl
  i212 := by kernel_rfl
  i232 := by kernel_rfl
  i233 := by kernel_rfl
  m17 := by kernel_rfl
  m18 := by kernel_rfl
  m19 := by kernel_rfl }
open Go.RowKit Go.Sort Go.Lib in
/-- strconv.Itoa: "Itoa is equivalent to FormatInt(int64(i), 10).": i's DECIMAL NUMERAL ('Lib.itoa': a '-' where i is negative, then the digits), FOR EVERY int. The world behind the call: the world before it, new blocks behind the heap (the library's 'var a [24]byte'), draws. (LAID: no walk: one application.) -/
theorem Tryz.strconv_Itoa (n : Int) (h0 : -9223372036854775808 ≤ n) (h1 : n ≤ 9223372036854775807) (w : World) (htab : Lib.TabIs Tryz.prog w "internal/strconv.uint64pow10" .u64 Lib.pow10Tab) :
    Calls Tryz.prog 137 #[.int .i64 n] w fun e w' => e = .returned (.string ⟨(Lib.itoa n).toArray⟩) ∧ ∃ k os, w' = grow (w.drewN k) os := Any.strconv_Itoa Tryz.laysM171 n h0 h1 w htab
def Tryz.laysM145_ren : Go.Shelf.Ren := ⟨fun | 145 => 156 | 220 => 178 | 219 => 202 | 217 => 217 | 225 => 218 | 224 => 219 | 267 => 220 | 266 => 236 | 314 => 237 | n => n, fun | 9 => 9 | 4 => 4 | 59 => 200 | 3 => 3 | 5 => 5 | 46 => 196 | 146 => 218 | 51 => 217 | n => n, fun | 1 => 0 | n => n⟩
theorem Tryz.laysM145 : Go.Proofs.LaysM.n145 Tryz.prog Tryz.laysM145_ren := {
  mixed := by kernel_rfl
  f145 := Tryz.func156.trans (congrArg some (by kernel_rfl))
  f217 := Tryz.func217.trans (congrArg some (by kernel_rfl))
  f219 := Tryz.func202.trans (congrArg some (by kernel_rfl))
  f220 := Tryz.func178.trans (congrArg some (by kernel_rfl))
  f224 := Tryz.func219.trans (congrArg some (by kernel_rfl))
  f225 := Tryz.func218.trans (congrArg some (by kernel_rfl))
  f266 := Tryz.func236.trans (congrArg some (by kernel_rfl))
  f267 := Tryz.func220.trans (congrArg some (by kernel_rfl))
  f314 := Tryz.func237.trans (congrArg some (by kernel_rfl))
  t3 := Tryz.underlying3
  a3 := Tryz.isAgg3
  z3 := Tryz.sizeOf3
  v3 := Tryz.zeroValue3
  t4 := Tryz.underlying4
  a4 := Tryz.isAgg4
  z4 := Tryz.sizeOf4
  v4 := Tryz.zeroValue4
  t5 := Tryz.underlying5
  a5 := Tryz.isAgg5
  z5 := Tryz.sizeOf5
  v5 := Tryz.zeroValue5
  t9 := Tryz.underlying9
  a9 := Tryz.isAgg9
  z9 := Tryz.sizeOf9
  v9 := Tryz.zeroValue9
  t46 := Tryz.underlying196
  a46 := Tryz.isAgg196
  z46 := Tryz.sizeOf196
  v46 := Tryz.zeroValue196
  t51 := Tryz.underlying217
  a51 := Tryz.isAgg217
  z51 := Tryz.sizeOf217
  v51 := Tryz.zeroValue217
  t59 := Tryz.underlying200
  a59 := Tryz.isAgg200
  z59 := Tryz.sizeOf200
  v59 := Tryz.zeroValue200
  t146 := Tryz.underlying218
  a146 := Tryz.isAgg218
  z146 := Tryz.sizeOf218
  v146 := Tryz.zeroValue218
  g1 := by kernel_rfl
  i3 := by kernel_rfl
  i4 := by kernel_rfl
  i5 := by kernel_rfl
  i9 := by kernel_rfl
  i46 := by kernel_rfl
  i51 := by kernel_rfl
  i59 := by kernel_rfl
  i146 := by kernel_rfl
  m1 := by kernel_rfl
  s1_3 := fun w h => Go.Proofs.cell_of_shapedOpen_int (zero := #[.int .i64 0]) (t := 3) h (of_decide_eq_true (by kernel_rfl)) (by kernel_rfl) rfl (by kernel_rfl) (by kernel_rfl) Tryz.underlying3 }
open Go.RowKit Go.Lib in
theorem Tryz.strings_Cut_shaped (s sep : ByteArray) (w : World) (h : w.ShapedOpen Tryz.prog) (hs : s.size < 4294967281) :
    Calls Tryz.prog 156 #[.string s, .string sep] w fun e w' => e = .returned (.tuple #[.string ⟨(Lib.cut s.data.toList sep.data.toList).1.toArray⟩, .string ⟨(Lib.cut s.data.toList sep.data.toList).2.1.toArray⟩, .bool (Lib.cut s.data.toList sep.data.toList).2.2]) ∧ ∃ n, w' = w.drewN n := Any.strings_Cut_shaped Tryz.laysM145 s sep w h hs
def Tryz.lays99_ren : Go.Shelf.Ren := ⟨fun | 99 => 157 | 206 => 179 | n => n, fun | 9 => 9 | 4 => 4 | 3 => 3 | n => n, fun | n => n⟩
theorem Tryz.lays99 : Go.Proofs.Lays.n99 Tryz.prog Tryz.lays99_ren := {
  mixed := by kernel_rfl
  f99 := Tryz.func157.trans (congrArg some (by kernel_rfl))
  f206 := Tryz.func179.trans (congrArg some (by kernel_rfl))
  t3 := Tryz.underlying3
  a3 := Tryz.isAgg3
  z3 := Tryz.sizeOf3
  v3 := Tryz.zeroValue3
  t4 := Tryz.underlying4
  a4 := Tryz.isAgg4
  z4 := Tryz.sizeOf4
  v4 := Tryz.zeroValue4
  t9 := Tryz.underlying9
  a9 := Tryz.isAgg9
  z9 := Tryz.sizeOf9
  v9 := Tryz.zeroValue9 }
open Go.RowKit Go.Lib in
/-- strings.HasPrefix: "HasPrefix reports whether the string s begins with prefix.": IT RETURNS 'Lib.hasPrefix s prefix'; the world is as it was. (LAID: no walk: one application.) -/
theorem Tryz.strings_HasPrefix (s p : ByteArray) (w : World) :
    Calls Tryz.prog 157 #[.string s, .string p] w fun e w' => e = .returned (.bool (Lib.hasPrefix s.data.toList p.data.toList)) ∧ w' = w := Any.strings_HasPrefix Tryz.lays99 s p w
def Tryz.lays101_ren : Go.Shelf.Ren := ⟨fun | 101 => 167 | 208 => 186 | 206 => 179 | n => n, fun | 9 => 9 | 4 => 4 | 3 => 3 | n => n, fun | n => n⟩
theorem Tryz.lays101 : Go.Proofs.Lays.n101 Tryz.prog Tryz.lays101_ren := {
  mixed := by kernel_rfl
  f101 := Tryz.func167.trans (congrArg some (by kernel_rfl))
  f206 := Tryz.func179.trans (congrArg some (by kernel_rfl))
  f208 := Tryz.func186.trans (congrArg some (by kernel_rfl))
  t3 := Tryz.underlying3
  a3 := Tryz.isAgg3
  z3 := Tryz.sizeOf3
  v3 := Tryz.zeroValue3
  t4 := Tryz.underlying4
  a4 := Tryz.isAgg4
  z4 := Tryz.sizeOf4
  v4 := Tryz.zeroValue4
  t9 := Tryz.underlying9
  a9 := Tryz.isAgg9
  z9 := Tryz.sizeOf9
  v9 := Tryz.zeroValue9 }
open Go.RowKit Go.Lib in
/-- strings.TrimPrefix: "TrimPrefix returns s without the provided leading prefix string. If s doesn't start with prefix, s is returned unchanged.": IT RETURNS 'Lib.trimPrefix s prefix'; the world is as it was. (LAID: no walk: one application.) -/
theorem Tryz.strings_TrimPrefix (s p : ByteArray) (w : World) :
    Calls Tryz.prog 167 #[.string s, .string p] w fun e w' => e = .returned (.string ⟨(Lib.trimPrefix s.data.toList p.data.toList).toArray⟩) ∧ w' = w := Any.strings_TrimPrefix Tryz.lays101 s p w
def Tryz.lays160_ren : Go.Shelf.Ren := ⟨fun | 160 => 168 | 232 => 188 | 231 => 187 | 227 => 189 | 234 => 191 | 233 => 190 | 236 => 193 | 235 => 192 | 228 => 209 | 271 => 212 | 151 => 211 | 197 => 210 | 120 => 233 | 152 => 232 | 260 => 231 | 137 => 243 | 119 => 244 | 224 => 219 | 225 => 218 | 217 => 217 | 266 => 236 | n => n, fun | 9 => 9 | 4 => 4 | 3 => 3 | 5 => 5 | 117 => 235 | 116 => 234 | 0 => 0 | 124 => 238 | 21 => 21 | 105 => 255 | 46 => 196 | 119 => 282 | 139 => 285 | 138 => 284 | n => n, fun | 3 => 4 | 4 => 5 | n => n⟩
theorem Tryz.lays160 : Go.Proofs.Lays.n160 Tryz.prog Tryz.lays160_ren := {
  mixed := by kernel_rfl
  f119 := Tryz.func244.trans (congrArg some (by kernel_rfl))
  f120 := Tryz.func233.trans (congrArg some (by kernel_rfl))
  f137 := Tryz.func243.trans (congrArg some (by kernel_rfl))
  f151 := Tryz.func211.trans (congrArg some (by kernel_rfl))
  f152 := Tryz.func232.trans (congrArg some (by kernel_rfl))
  f160 := Tryz.func168.trans (congrArg some (by kernel_rfl))
  f197 := Tryz.func210.trans (congrArg some (by kernel_rfl))
  f217 := Tryz.func217.trans (congrArg some (by kernel_rfl))
  f224 := Tryz.func219.trans (congrArg some (by kernel_rfl))
  f225 := Tryz.func218.trans (congrArg some (by kernel_rfl))
  f227 := Tryz.func189.trans (congrArg some (by kernel_rfl))
  f228 := Tryz.func209.trans (congrArg some (by kernel_rfl))
  f231 := Tryz.func187.trans (congrArg some (by kernel_rfl))
  f232 := Tryz.func188.trans (congrArg some (by kernel_rfl))
  f233 := Tryz.func190.trans (congrArg some (by kernel_rfl))
  f234 := Tryz.func191.trans (congrArg some (by kernel_rfl))
  f235 := Tryz.func192.trans (congrArg some (by kernel_rfl))
  f236 := Tryz.func193.trans (congrArg some (by kernel_rfl))
  f260 := Tryz.func231.trans (congrArg some (by kernel_rfl))
  f266 := Tryz.func236.trans (congrArg some (by kernel_rfl))
  f271 := Tryz.func212.trans (congrArg some (by kernel_rfl))
  t0 := Tryz.underlying0
  a0 := Tryz.isAgg0
  z0 := Tryz.sizeOf0
  v0 := Tryz.zeroValue0
  t3 := Tryz.underlying3
  a3 := Tryz.isAgg3
  z3 := Tryz.sizeOf3
  v3 := Tryz.zeroValue3
  t4 := Tryz.underlying4
  a4 := Tryz.isAgg4
  z4 := Tryz.sizeOf4
  v4 := Tryz.zeroValue4
  t5 := Tryz.underlying5
  a5 := Tryz.isAgg5
  z5 := Tryz.sizeOf5
  v5 := Tryz.zeroValue5
  t9 := Tryz.underlying9
  a9 := Tryz.isAgg9
  z9 := Tryz.sizeOf9
  v9 := Tryz.zeroValue9
  t21 := Tryz.underlying21
  a21 := Tryz.isAgg21
  z21 := Tryz.sizeOf21
  v21 := Tryz.zeroValue21
  t46 := Tryz.underlying196
  a46 := Tryz.isAgg196
  z46 := Tryz.sizeOf196
  v46 := Tryz.zeroValue196
  t105 := Tryz.underlying255
  a105 := Tryz.isAgg255
  z105 := Tryz.sizeOf255
  v105 := Tryz.zeroValue255
  t116 := Tryz.underlying234
  a116 := Tryz.isAgg234
  z116 := Tryz.sizeOf234
  t117 := Tryz.underlying235
  a117 := Tryz.isAgg235
  z117 := Tryz.sizeOf235
  v117 := Tryz.zeroValue235
  t119 := Tryz.underlying282
  a119 := Tryz.isAgg282
  z119 := Tryz.sizeOf282
  t124 := Tryz.underlying238
  a124 := Tryz.isAgg238
  z124 := Tryz.sizeOf238
  v124 := Tryz.zeroValue238
  t138 := Tryz.underlying284
  a138 := Tryz.isAgg284
  z138 := Tryz.sizeOf284
  v138 := Tryz.zeroValue284
  t139 := Tryz.underlying285
  a139 := Tryz.isAgg285
  z139 := Tryz.sizeOf285
  v139 := Tryz.zeroValue285
  g3 := by kernel_rfl
  g4 := by kernel_rfl }
end Go.Proofs
