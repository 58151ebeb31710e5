/-
  DERIVED: THE SHELF's CONTRACTS AT THIS DUMP, IN PLAIN WORDS (tools/lay-plain.mjs out of 'TryzShelfCut.lean', which tools/lay-shelf.mjs wrote): THE SAME DECLARATIONS UNDER THE SAME NAMES: 'import', 'namespace', 'open', 'def', 'theorem' AND NOTHING ELSE: no command of the shelf's: FOR A HAND-IN. Each laying: the table of numbers ('.._ren') and one theorem, a field a fact of the dump's own or the kernel's comparison; each contract: ONE APPLICATION.
-/
import Derived.Shelf.Strings.Builder1
import Derived.Shelf.Strings.Builder2
import Derived.Shelf.Strings.BuilderF
import Derived.Shelf.Strings.BuilderK
import Derived.Shelf.Small.Strs
import Derived.Shelf.Strconv.Itoa0
import Derived.Shelf.Strconv.Itoa1
import Derived.Shelf.LaysM
import Derived.Shelf.Strconv.Itoa2
import Derived.Shelf.Strconv.Itoa3
import Derived.Shelf.Strconv.Itoa4
import Derived.Shelf.Strconv.ParseIntEmpty
import Derived.Shelf.Strconv.Clone
import Derived.Shelf.Strconv.SyntaxError
import Derived.Shelf.LaysC
import Derived.Shelf.Strconv.ToError
import Derived.Shelf.Strconv.Lower
import Derived.Shelf.Strconv.ParseUint10
import Derived.Shelf.Strconv.ParseUint10Empty
import Derived.Shelf.Strconv.ParseUint10Any
import Derived.Shelf.Strconv.ParseInt10
import Derived.Shelf.Strconv.RangeError
import Derived.Shelf.Strconv.ToErrorRange
import Derived.Shelf.Strconv.ParseUintEmpty
import Derived.Shelf.Strconv.ParseUint10b64
import Derived.Shelf.Strconv.ParseUint10b32
import Derived.Shelf.Strconv.ParseUint10b16
import Derived.Shelf.Strconv.ParseUint10b8
import Derived.Shelf.Strconv.ParseUint10At
import Derived.Shelf.Strconv.ParseInt10At64
import Derived.Shelf.Strconv.ParseInt10At32
import Derived.Shelf.Strconv.ParseInt10At16
import Derived.Shelf.Strconv.ParseInt10At8
import Derived.Shelf.Strconv.ParseInt10All
import Derived.Shelf.Strconv.ParseIntPublic10
import Derived.Shelf.Strconv.ErrVarParseInt
import Derived.Shelf.Strings.Prefix
import Derived.Test.YtamjadghncnbcaaGreatDoorProg
namespace Go.Proofs
open Go.Shelf
def Tryz.lays169_ren : Go.Shelf.Ren := ⟨fun | 169 => 171 | n => n, fun | 70 => 221 | 9 => 9 | 0 => 0 | 72 => 224 | 37 => 222 | 127 => 259 | 3 => 3 | 5 => 5 | n => n, fun | n => n⟩
theorem Tryz.lays169 : Go.Proofs.Lays.n169 Tryz.prog Tryz.lays169_ren := {
  mixed := by kernel_rfl
  f169 := Tryz.func171.trans (congrArg some (by kernel_rfl))
  t0 := Tryz.underlying0
  a0 := Tryz.isAgg0
  z0 := Tryz.sizeOf0
  v0 := Tryz.zeroValue0
  t3 := Tryz.underlying3
  a3 := Tryz.isAgg3
  z3 := Tryz.sizeOf3
  v3 := Tryz.zeroValue3
  t9 := Tryz.underlying9
  a9 := Tryz.isAgg9
  z9 := Tryz.sizeOf9
  v9 := Tryz.zeroValue9
  t37 := Tryz.underlying222
  a37 := Tryz.isAgg222
  z37 := Tryz.sizeOf222
  v37 := Tryz.zeroValue222
  t70 := Tryz.underlying221
  a70 := Tryz.isAgg221
  z70 := Tryz.sizeOf221
  v70 := Tryz.zeroValue221
  t72 := Tryz.underlying224
  a72 := Tryz.isAgg224
  z72 := Tryz.sizeOf224
  v72 := Tryz.zeroValue224
  t127 := Tryz.underlying259
  a127 := Tryz.isAgg259
  z127 := Tryz.sizeOf259
  v127 := Tryz.zeroValue259 }
theorem Tryz.Builder_Extra_169 : Builder.Extra Tryz.prog Tryz.lays169_ren := {
  sizeBuilder := by kernel_rfl
  liesBuilder := by kernel_rfl
  t5 := Tryz.underlying5
  a5 := Tryz.isAgg5
  z5 := Tryz.sizeOf5
  v5 := Tryz.zeroValue5
  infoByte := by kernel_rfl
  cellsByte := by kernel_rfl
  sizeByte := by kernel_rfl
  neB5 := by decide }
open Go.RowKit in
/-- (*strings.Builder).String: "String returns the accumulated string.": WHATEVER THE BUILDER HOLDS. (LAID: no walk: one application.) -/
theorem Tryz.Builder_String_any (B b : Nat) (l : List UInt8) (w : World) (h : Lib.IsBuilder 224 5 B b (Lib.byteCells l) w) (hBw : B ≤ w.heap.size) :
    Calls Tryz.prog 171 #[.pointer (some ⟨b, 0, none⟩)] w fun e w' => e = .returned (.string ⟨l.toArray⟩) ∧ Below B w w' := Any.Builder_String_any Tryz.lays169 Tryz.Builder_Extra_169 B b l w h hBw
def Tryz.lays106_ren : Go.Shelf.Ren := ⟨fun | 106 => 195 | 213 => 223 | 265 => 249 | n => n, fun | 9 => 9 | 3 => 3 | n => n, fun | n => n⟩
theorem Tryz.lays106 : Go.Proofs.Lays.n106 Tryz.prog Tryz.lays106_ren := {
  mixed := by kernel_rfl
  f106 := Tryz.func195.trans (congrArg some (by kernel_rfl))
  f213 := Tryz.func223.trans (congrArg some (by kernel_rfl))
  f265 := Tryz.func249.trans (congrArg some (by kernel_rfl))
  t3 := Tryz.underlying3
  a3 := Tryz.isAgg3
  z3 := Tryz.sizeOf3
  v3 := Tryz.zeroValue3
  t9 := Tryz.underlying9
  a9 := Tryz.isAgg9
  z9 := Tryz.sizeOf9
  v9 := Tryz.zeroValue9 }
open Go.RowKit in
/-- strings.Compare: "Compare returns an integer comparing two strings lexicographically. The result will be 0 if a == b, -1 if a < b, and +1 if a > b.": IT RETURNS 'Lib.compareBytes a b'; the world is as it was. (LAID: no walk: one application.) -/
theorem Tryz.strings_Compare (a b : ByteArray) (w : World) :
    Calls Tryz.prog 195 #[.string a, .string b] w fun e w' => e = .returned (.int .i64 (Lib.compareBytes a.data.toList b.data.toList)) ∧ w' = w := Any.strings_Compare Tryz.lays106 a b w
def Tryz.laysM173_ren : Go.Shelf.Ren := ⟨fun | 173 => 179 | 246 => 183 | 283 => 215 | 284 => 216 | 285 => 217 | 286 => 218 | 129 => 207 | 317 => 240 | 318 => 241 | 319 => 242 | 320 => 243 | 337 => 255 | 338 => 256 | n => n, fun | 2 => 2 | 3 => 3 | 9 => 9 | 4 => 4 | 171 => 263 | 0 => 0 | 53 => 200 | 37 => 222 | 5 => 5 | 173 => 265 | 212 => 289 | 51 => 257 | 20 => 20 | 213 => 290 | 46 => 214 | 232 => 303 | 233 => 304 | n => n, fun | 17 => 1 | 18 => 3 | 19 => 4 | n => n⟩
theorem Tryz.laysM173 : Go.Proofs.LaysM.n173 Tryz.prog Tryz.laysM173_ren := {
  mixed := by kernel_rfl
  f129 := Tryz.func207.trans (congrArg some (by kernel_rfl))
  f173 := Tryz.func179.trans (congrArg some (by kernel_rfl))
  f246 := Tryz.func183.trans (congrArg some (by kernel_rfl))
  f283 := Tryz.func215.trans (congrArg some (by kernel_rfl))
  f284 := Tryz.func216.trans (congrArg some (by kernel_rfl))
  f285 := Tryz.func217.trans (congrArg some (by kernel_rfl))
  f286 := Tryz.func218.trans (congrArg some (by kernel_rfl))
  f317 := Tryz.func240.trans (congrArg some (by kernel_rfl))
  f318 := Tryz.func241.trans (congrArg some (by kernel_rfl))
  f319 := Tryz.func242.trans (congrArg some (by kernel_rfl))
  f320 := Tryz.func243.trans (congrArg some (by kernel_rfl))
  f337 := Tryz.func255.trans (congrArg some (by kernel_rfl))
  f338 := Tryz.func256.trans (congrArg some (by kernel_rfl))
  t0 := Tryz.underlying0
  a0 := Tryz.isAgg0
  z0 := Tryz.sizeOf0
  v0 := Tryz.zeroValue0
  t2 := Tryz.underlying2
  a2 := Tryz.isAgg2
  z2 := Tryz.sizeOf2
  v2 := Tryz.zeroValue2
  t3 := Tryz.underlying3
  a3 := Tryz.isAgg3
  z3 := Tryz.sizeOf3
  v3 := Tryz.zeroValue3
  t4 := Tryz.underlying4
  a4 := Tryz.isAgg4
  z4 := Tryz.sizeOf4
  v4 := Tryz.zeroValue4
  t5 := Tryz.underlying5
  a5 := Tryz.isAgg5
  z5 := Tryz.sizeOf5
  v5 := Tryz.zeroValue5
  t9 := Tryz.underlying9
  a9 := Tryz.isAgg9
  z9 := Tryz.sizeOf9
  v9 := Tryz.zeroValue9
  t20 := Tryz.underlying20
  a20 := Tryz.isAgg20
  z20 := Tryz.sizeOf20
  v20 := Tryz.zeroValue20
  t37 := Tryz.underlying222
  a37 := Tryz.isAgg222
  z37 := Tryz.sizeOf222
  v37 := Tryz.zeroValue222
  t46 := Tryz.underlying214
  a46 := Tryz.isAgg214
  z46 := Tryz.sizeOf214
  v46 := Tryz.zeroValue214
  t51 := Tryz.underlying257
  a51 := Tryz.isAgg257
  z51 := Tryz.sizeOf257
  v51 := Tryz.zeroValue257
  t53 := Tryz.underlying200
  a53 := Tryz.isAgg200
  z53 := Tryz.sizeOf200
  v53 := Tryz.zeroValue200
  t171 := Tryz.underlying263
  a171 := Tryz.isAgg263
  z171 := Tryz.sizeOf263
  v171 := Tryz.zeroValue263
  t173 := Tryz.underlying265
  a173 := Tryz.isAgg265
  z173 := Tryz.sizeOf265
  v173 := Tryz.zeroValue265
  t212 := Tryz.underlying289
  a212 := Tryz.isAgg289
  z212 := Tryz.sizeOf289
  v212 := Tryz.zeroValue289
  t213 := Tryz.underlying290
  a213 := Tryz.isAgg290
  z213 := Tryz.sizeOf290
  t232 := Tryz.underlying303
  a232 := Tryz.isAgg303
  z232 := Tryz.sizeOf303
  v232 := Tryz.zeroValue303
  t233 := Tryz.underlying304
  a233 := Tryz.isAgg304
  z233 := Tryz.sizeOf304
  v233 := Tryz.zeroValue304
  g17 := by kernel_rfl
  g18 := by kernel_rfl
  g19 := by kernel_rfl
  i0 := by kernel_rfl
  i2 := by kernel_rfl
  i3 := by kernel_rfl
  i4 := by kernel_rfl
  i5 := by kernel_rfl
  i9 := by kernel_rfl
  i20 := by kernel_rfl
  i37 := by kernel_rfl
  i46 := by kernel_rfl
  i51 := by kernel_rfl
  i53 := by kernel_rfl
  i171 := by kernel_rfl
  i173 := by kernel_rfl
  i212 := by kernel_rfl
  i232 := by kernel_rfl
  i233 := by kernel_rfl
  m17 := by kernel_rfl
  m18 := by kernel_rfl
  m19 := by kernel_rfl }
open Go.RowKit Go.Sort Go.Lib in
/-- strconv.FormatInt: "FormatInt returns the string representation of i in the given base": AT BASE 10: i's decimal numeral, for every int64. (LAID: no walk: one application.) -/
theorem Tryz.strconv_FormatInt_10 (n : Int) (h0 : -9223372036854775808 ≤ n) (h1 : n ≤ 9223372036854775807) (w : World) (htab : Lib.TabIs Tryz.prog w "internal/strconv.uint64pow10" .u64 Lib.pow10Tab) :
    Calls Tryz.prog 179 #[.int .i64 n, .int .i64 10] w fun e w' => e = .returned (.string ⟨(Lib.itoa n).toArray⟩) ∧ ∃ k os, w' = grow (w.drewN k) os := Any.strconv_FormatInt_10 Tryz.laysM173 n h0 h1 w htab
def Tryz.laysC174_ren : Go.Shelf.Ren := ⟨fun | 174 => 260 | 247 => 264 | 245 => 265 | 287 => 266 | 279 => 267 | 280 => 268 | 281 => 269 | 282 => 270 | 321 => 271 | 322 => 272 | 316 => 273 | 171 => 65 | 205 => 274 | 243 => 128 | 246 => 183 | 283 => 215 | 284 => 216 | 285 => 217 | 286 => 218 | 129 => 207 | 317 => 240 | 318 => 241 | 319 => 242 | 320 => 243 | 337 => 255 | 338 => 256 | n => n, fun | 9 => 9 | 3 => 3 | 2 => 2 | 75 => 227 | 85 => 300 | 4 => 4 | 167 => 307 | 5 => 5 | 53 => 200 | 175 => 308 | 46 => 214 | 168 => 310 | 37 => 222 | 0 => 0 | 210 => 315 | 21 => 21 | 127 => 259 | 145 => 319 | 143 => 317 | 171 => 263 | 173 => 265 | 212 => 289 | 51 => 257 | 20 => 20 | 213 => 290 | 232 => 303 | 233 => 304 | 80 => 230 | n => n, fun | 15 => 5 | 16 => 6 | 17 => 1 | 18 => 3 | 19 => 4 | n => n⟩
theorem Tryz.laysC174 : Go.Proofs.LaysC.n174 Tryz.prog Tryz.laysC174_ren := {
  mixed := by kernel_rfl
  f129 := Tryz.func207.trans (congrArg some (by kernel_rfl))
  f171 := Tryz.func65.trans (congrArg some (by kernel_rfl))
  f174 := Tryz.func260.trans (congrArg some (by kernel_rfl))
  f205 := Tryz.func274.trans (congrArg some (by kernel_rfl))
  f243 := Tryz.func128.trans (congrArg some (by kernel_rfl))
  f245 := Tryz.func265.trans (congrArg some (by kernel_rfl))
  f246 := Tryz.func183.trans (congrArg some (by kernel_rfl))
  f247 := Tryz.func264.trans (congrArg some (by kernel_rfl))
  f279 := Tryz.func267.trans (congrArg some (by kernel_rfl))
  f280 := Tryz.func268.trans (congrArg some (by kernel_rfl))
  f281 := Tryz.func269.trans (congrArg some (by kernel_rfl))
  f282 := Tryz.func270.trans (congrArg some (by kernel_rfl))
  f283 := Tryz.func215.trans (congrArg some (by kernel_rfl))
  f284 := Tryz.func216.trans (congrArg some (by kernel_rfl))
  f285 := Tryz.func217.trans (congrArg some (by kernel_rfl))
  f286 := Tryz.func218.trans (congrArg some (by kernel_rfl))
  f287 := Tryz.func266.trans (congrArg some (by kernel_rfl))
  f316 := Tryz.func273.trans (congrArg some (by kernel_rfl))
  f317 := Tryz.func240.trans (congrArg some (by kernel_rfl))
  f318 := Tryz.func241.trans (congrArg some (by kernel_rfl))
  f319 := Tryz.func242.trans (congrArg some (by kernel_rfl))
  f320 := Tryz.func243.trans (congrArg some (by kernel_rfl))
  f321 := Tryz.func271.trans (congrArg some (by kernel_rfl))
  f322 := Tryz.func272.trans (congrArg some (by kernel_rfl))
  f337 := Tryz.func255.trans (congrArg some (by kernel_rfl))
  f338 := Tryz.func256.trans (congrArg some (by kernel_rfl))
  t0 := Tryz.underlying0
  a0 := Tryz.isAgg0
  z0 := Tryz.sizeOf0
  v0 := Tryz.zeroValue0
  t2 := Tryz.underlying2
  a2 := Tryz.isAgg2
  z2 := Tryz.sizeOf2
  v2 := Tryz.zeroValue2
  t3 := Tryz.underlying3
  a3 := Tryz.isAgg3
  z3 := Tryz.sizeOf3
  v3 := Tryz.zeroValue3
  t4 := Tryz.underlying4
  a4 := Tryz.isAgg4
  z4 := Tryz.sizeOf4
  v4 := Tryz.zeroValue4
  t5 := Tryz.underlying5
  a5 := Tryz.isAgg5
  z5 := Tryz.sizeOf5
  v5 := Tryz.zeroValue5
  t9 := Tryz.underlying9
  a9 := Tryz.isAgg9
  z9 := Tryz.sizeOf9
  v9 := Tryz.zeroValue9
  t20 := Tryz.underlying20
  a20 := Tryz.isAgg20
  z20 := Tryz.sizeOf20
  v20 := Tryz.zeroValue20
  t21 := Tryz.underlying21
  a21 := Tryz.isAgg21
  z21 := Tryz.sizeOf21
  v21 := Tryz.zeroValue21
  t37 := Tryz.underlying222
  a37 := Tryz.isAgg222
  z37 := Tryz.sizeOf222
  v37 := Tryz.zeroValue222
  t46 := Tryz.underlying214
  a46 := Tryz.isAgg214
  z46 := Tryz.sizeOf214
  v46 := Tryz.zeroValue214
  t51 := Tryz.underlying257
  a51 := Tryz.isAgg257
  z51 := Tryz.sizeOf257
  v51 := Tryz.zeroValue257
  t53 := Tryz.underlying200
  a53 := Tryz.isAgg200
  z53 := Tryz.sizeOf200
  v53 := Tryz.zeroValue200
  t75 := Tryz.underlying227
  a75 := Tryz.isAgg227
  z75 := Tryz.sizeOf227
  v75 := Tryz.zeroValue227
  t85 := Tryz.underlying300
  a85 := Tryz.isAgg300
  z85 := Tryz.sizeOf300
  v85 := Tryz.zeroValue300
  t127 := Tryz.underlying259
  a127 := Tryz.isAgg259
  z127 := Tryz.sizeOf259
  v127 := Tryz.zeroValue259
  t143 := Tryz.underlying317
  a143 := Tryz.isAgg317
  z143 := Tryz.sizeOf317
  v143 := Tryz.zeroValue317
  t145 := Tryz.underlying319
  a145 := Tryz.isAgg319
  z145 := Tryz.sizeOf319
  v145 := Tryz.zeroValue319
  t167 := Tryz.underlying307
  a167 := Tryz.isAgg307
  z167 := Tryz.sizeOf307
  v167 := Tryz.zeroValue307
  t168 := Tryz.underlying310
  a168 := Tryz.isAgg310
  z168 := Tryz.sizeOf310
  v168 := Tryz.zeroValue310
  t171 := Tryz.underlying263
  a171 := Tryz.isAgg263
  z171 := Tryz.sizeOf263
  v171 := Tryz.zeroValue263
  t173 := Tryz.underlying265
  a173 := Tryz.isAgg265
  z173 := Tryz.sizeOf265
  v173 := Tryz.zeroValue265
  t175 := Tryz.underlying308
  a175 := Tryz.isAgg308
  z175 := Tryz.sizeOf308
  v175 := Tryz.zeroValue308
  t210 := Tryz.underlying315
  a210 := Tryz.isAgg315
  z210 := Tryz.sizeOf315
  v210 := Tryz.zeroValue315
  t212 := Tryz.underlying289
  a212 := Tryz.isAgg289
  z212 := Tryz.sizeOf289
  v212 := Tryz.zeroValue289
  t213 := Tryz.underlying290
  a213 := Tryz.isAgg290
  z213 := Tryz.sizeOf290
  t232 := Tryz.underlying303
  a232 := Tryz.isAgg303
  z232 := Tryz.sizeOf303
  v232 := Tryz.zeroValue303
  t233 := Tryz.underlying304
  a233 := Tryz.isAgg304
  z233 := Tryz.sizeOf304
  v233 := Tryz.zeroValue304
  g15 := by kernel_rfl
  g16 := by kernel_rfl
  g17 := by kernel_rfl
  g18 := by kernel_rfl
  g19 := by kernel_rfl
  t80 := Tryz.underlying230
  a80 := Tryz.isAgg230
  z80 := Tryz.sizeOf230
  v80 := Tryz.zeroValue230
  i0 := by kernel_rfl
  i2 := by kernel_rfl
  i3 := by kernel_rfl
  i4 := by kernel_rfl
  i5 := by kernel_rfl
  i9 := by kernel_rfl
  i20 := by kernel_rfl
  i21 := by kernel_rfl
  i37 := by kernel_rfl
  i46 := by kernel_rfl
  i51 := by kernel_rfl
  i53 := by kernel_rfl
  i75 := by kernel_rfl
  i80 := by kernel_rfl
  i85 := by kernel_rfl
  i127 := by kernel_rfl
  i143 := by kernel_rfl
  i145 := by kernel_rfl
  i167 := by kernel_rfl
  i168 := by kernel_rfl
  i171 := by kernel_rfl
  i173 := by kernel_rfl
  i175 := by kernel_rfl
  i210 := by kernel_rfl
  i212 := by kernel_rfl
  i232 := by kernel_rfl
  i233 := by kernel_rfl
  m15 := by kernel_rfl
  m16 := by kernel_rfl
  m17 := by kernel_rfl
  m18 := by kernel_rfl
  m19 := by kernel_rfl
  c0 := by kernel_rfl
  c2 := by kernel_rfl
  c3 := by kernel_rfl
  c4 := by kernel_rfl
  c5 := by kernel_rfl
  c9 := by kernel_rfl
  c20 := by kernel_rfl
  c21 := by kernel_rfl
  c37 := by kernel_rfl
  c46 := by kernel_rfl
  c51 := by kernel_rfl
  c53 := by kernel_rfl
  c75 := by kernel_rfl
  c80 := by kernel_rfl
  c85 := by kernel_rfl
  c127 := by kernel_rfl
  c143 := by kernel_rfl
  c145 := by kernel_rfl
  c167 := by kernel_rfl
  c168 := by kernel_rfl
  c171 := by kernel_rfl
  c173 := by kernel_rfl
  c175 := by kernel_rfl
  c210 := by kernel_rfl
  c212 := by kernel_rfl
  c213 := by kernel_rfl
  c232 := by kernel_rfl
  c233 := by kernel_rfl }
open Go.RowKit in
/-- strconv.ParseInt(s, 10, 64), AT EVERY STRING THAT SPELLS AN int64 ('Lib.parseIntB 64 s.data.toList = .ok v'): v, AND NO ERROR. (LAID: no walk: one application.) -/
theorem Tryz.strconv_ParseInt_10_at64_ok (s : ByteArray) (hmax : s.size ≤ 9223372036854775806) (v : Int) (h : Lib.parseIntB 64 s.data.toList = .ok v) (w : World) :
    Calls Tryz.prog 260 #[.string s, .int .i64 10, .int .i64 64] w fun e w' => e = .returned (.tuple #[.int .i64 v, .nilIface]) ∧ (w' = w ∨ ∃ t, w' = Lib.bytesWorld w 5 t) := Any.strconv_ParseInt_10_at64_ok Tryz.laysC174 s hmax v h w
open Go.RowKit in
theorem Tryz.strconv_ParseInt_10_at64_range_var (s : ByteArray) (hlim : s.size ≤ 281474976710656) (h : Lib.parseIntB 64 s.data.toList = .range) (tp : TypeId) (p : Value) (w : World) (hvar : w.var? Tryz.prog "strconv.ErrRange" = some #[.iface tp p]) :
    Calls Tryz.prog 260 #[.string s, .int .i64 10, .int .i64 64] w fun e w' => ∃ N, e = .returned (.tuple #[.int .i64 (Lib.intSat 64 s.data.toList), .iface 310 (.pointer (some ⟨N, 0, none⟩))]) ∧ w.heap.size ≤ N ∧ w'.heap[N]? = some (.cells #[.string ⟨#[80, 97, 114, 115, 101, 73, 110, 116]⟩, .string s, .iface tp p] 315 (0, 0)) ∧ Below w.heap.size w w' := Any.strconv_ParseInt_10_at64_range_var Tryz.laysC174 s hlim h tp p w hvar
def Tryz.lays99_ren : Go.Shelf.Ren := ⟨fun | 99 => 244 | 206 => 257 | n => n, fun | 9 => 9 | 4 => 4 | 3 => 3 | n => n, fun | n => n⟩
theorem Tryz.lays99 : Go.Proofs.Lays.n99 Tryz.prog Tryz.lays99_ren := {
  mixed := by kernel_rfl
  f99 := Tryz.func244.trans (congrArg some (by kernel_rfl))
  f206 := Tryz.func257.trans (congrArg some (by kernel_rfl))
  t3 := Tryz.underlying3
  a3 := Tryz.isAgg3
  z3 := Tryz.sizeOf3
  v3 := Tryz.zeroValue3
  t4 := Tryz.underlying4
  a4 := Tryz.isAgg4
  z4 := Tryz.sizeOf4
  v4 := Tryz.zeroValue4
  t9 := Tryz.underlying9
  a9 := Tryz.isAgg9
  z9 := Tryz.sizeOf9
  v9 := Tryz.zeroValue9 }
open Go.RowKit Go.Lib in
/-- strings.HasPrefix: "HasPrefix reports whether the string s begins with prefix.": IT RETURNS 'Lib.hasPrefix s prefix'; the world is as it was. (LAID: no walk: one application.) -/
theorem Tryz.strings_HasPrefix (s p : ByteArray) (w : World) :
    Calls Tryz.prog 244 #[.string s, .string p] w fun e w' => e = .returned (.bool (Lib.hasPrefix s.data.toList p.data.toList)) ∧ w' = w := Any.strings_HasPrefix Tryz.lays99 s p w
def Tryz.lays101_ren : Go.Shelf.Ren := ⟨fun | 101 => 259 | 208 => 263 | 206 => 257 | n => n, fun | 9 => 9 | 4 => 4 | 3 => 3 | n => n, fun | n => n⟩
theorem Tryz.lays101 : Go.Proofs.Lays.n101 Tryz.prog Tryz.lays101_ren := {
  mixed := by kernel_rfl
  f101 := Tryz.func259.trans (congrArg some (by kernel_rfl))
  f206 := Tryz.func257.trans (congrArg some (by kernel_rfl))
  f208 := Tryz.func263.trans (congrArg some (by kernel_rfl))
  t3 := Tryz.underlying3
  a3 := Tryz.isAgg3
  z3 := Tryz.sizeOf3
  v3 := Tryz.zeroValue3
  t4 := Tryz.underlying4
  a4 := Tryz.isAgg4
  z4 := Tryz.sizeOf4
  v4 := Tryz.zeroValue4
  t9 := Tryz.underlying9
  a9 := Tryz.isAgg9
  z9 := Tryz.sizeOf9
  v9 := Tryz.zeroValue9 }
open Go.RowKit Go.Lib in
/-- strings.TrimPrefix: "TrimPrefix returns s without the provided leading prefix string. If s doesn't start with prefix, s is returned unchanged.": IT RETURNS 'Lib.trimPrefix s prefix'; the world is as it was. (LAID: no walk: one application.) -/
theorem Tryz.strings_TrimPrefix (s p : ByteArray) (w : World) :
    Calls Tryz.prog 259 #[.string s, .string p] w fun e w' => e = .returned (.string ⟨(Lib.trimPrefix s.data.toList p.data.toList).toArray⟩) ∧ w' = w := Any.strings_TrimPrefix Tryz.lays101 s p w
end Go.Proofs
