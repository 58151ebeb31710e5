/-
  DERIVED: THE SHELF's CONTRACTS AT THIS DUMP, IN PLAIN WORDS (tools/lay-plain.mjs out of 'TrydShelfCut.lean', which tools/lay-shelf.mjs wrote): THE SAME DECLARATIONS UNDER THE SAME NAMES: 'import', 'namespace', 'open', 'def', 'theorem' AND NOTHING ELSE: no command of the shelf's: FOR A HAND-IN. Each laying: the table of numbers ('.._ren') and one theorem, a field a fact of the dump's own or the kernel's comparison; each contract: ONE APPLICATION.
-/
import Derived.Shelf.Strings.Builder1
import Derived.Shelf.Strings.Builder2
import Derived.Shelf.Strings.BuilderF
import Derived.Shelf.Strings.BuilderK
import Derived.Shelf.Strconv.Itoa0
import Derived.Shelf.Strconv.Itoa1
import Derived.Shelf.LaysM
import Derived.Shelf.Strconv.Itoa2
import Derived.Shelf.Strconv.Itoa3
import Derived.Shelf.Strconv.Itoa4
import Derived.Shelf.Strconv.ParseIntEmpty
import Derived.Shelf.Strconv.Clone
import Derived.Shelf.Strconv.SyntaxError
import Derived.Shelf.LaysC
import Derived.Shelf.Strconv.ToError
import Derived.Shelf.Strconv.Lower
import Derived.Shelf.Strconv.ParseUint10
import Derived.Shelf.Strconv.ParseUint10Empty
import Derived.Shelf.Strconv.ParseUint10Any
import Derived.Shelf.Strconv.ParseInt10
import Derived.Shelf.Strconv.RangeError
import Derived.Shelf.Strconv.ToErrorRange
import Derived.Shelf.Strconv.ParseUintEmpty
import Derived.Shelf.Strconv.ParseUint10b64
import Derived.Shelf.Strconv.ParseUint10b32
import Derived.Shelf.Strconv.ParseUint10b16
import Derived.Shelf.Strconv.ParseUint10b8
import Derived.Shelf.Strconv.ParseUint10At
import Derived.Shelf.Strconv.ParseInt10At64
import Derived.Shelf.Strconv.ParseInt10At32
import Derived.Shelf.Strconv.ParseInt10At16
import Derived.Shelf.Strconv.ParseInt10At8
import Derived.Shelf.Strconv.ParseInt10All
import Derived.Shelf.Strconv.ParseIntPublic10
import Derived.Shelf.Strconv.ErrVarParseInt
import Derived.Shelf.Strings.Prefix
import Derived.Shelf.Strconv.Itoa2
import Derived.Shelf.Strconv.Itoa3
import Derived.Shelf.Strconv.Itoa4
import Derived.Test.YtgilflkgibfjgaaDoorProg
namespace Go.Proofs
open Go.Shelf
def Tryd.lays169_ren : Go.Shelf.Ren := ⟨fun | 169 => 114 | n => n, fun | 70 => 169 | 9 => 9 | 0 => 0 | 72 => 171 | 37 => 165 | 127 => 198 | 3 => 3 | 5 => 5 | n => n, fun | n => n⟩
theorem Tryd.lays169 : Go.Proofs.Lays.n169 Tryd.prog Tryd.lays169_ren := {
  mixed := by kernel_rfl
  f169 := Tryd.func114.trans (congrArg some (by kernel_rfl))
  t0 := Tryd.underlying0
  a0 := Tryd.isAgg0
  z0 := Tryd.sizeOf0
  v0 := Tryd.zeroValue0
  t3 := Tryd.underlying3
  a3 := Tryd.isAgg3
  z3 := Tryd.sizeOf3
  v3 := Tryd.zeroValue3
  t9 := Tryd.underlying9
  a9 := Tryd.isAgg9
  z9 := Tryd.sizeOf9
  v9 := Tryd.zeroValue9
  t37 := Tryd.underlying165
  a37 := Tryd.isAgg165
  z37 := Tryd.sizeOf165
  v37 := Tryd.zeroValue165
  t70 := Tryd.underlying169
  a70 := Tryd.isAgg169
  z70 := Tryd.sizeOf169
  v70 := Tryd.zeroValue169
  t72 := Tryd.underlying171
  a72 := Tryd.isAgg171
  z72 := Tryd.sizeOf171
  v72 := Tryd.zeroValue171
  t127 := Tryd.underlying198
  a127 := Tryd.isAgg198
  z127 := Tryd.sizeOf198
  v127 := Tryd.zeroValue198 }
theorem Tryd.Builder_Extra_169 : Builder.Extra Tryd.prog Tryd.lays169_ren := {
  sizeBuilder := by kernel_rfl
  liesBuilder := by kernel_rfl
  t5 := Tryd.underlying5
  a5 := Tryd.isAgg5
  z5 := Tryd.sizeOf5
  v5 := Tryd.zeroValue5
  infoByte := by kernel_rfl
  cellsByte := by kernel_rfl
  sizeByte := by kernel_rfl
  neB5 := by decide }
open Go.RowKit in
/-- (*strings.Builder).String: "String returns the accumulated string.": WHATEVER THE BUILDER HOLDS. (LAID: no walk: one application.) -/
theorem Tryd.Builder_String_any (B b : Nat) (l : List UInt8) (w : World) (h : Lib.IsBuilder 171 5 B b (Lib.byteCells l) w) (hBw : B ≤ w.heap.size) :
    Calls Tryd.prog 114 #[.pointer (some ⟨b, 0, none⟩)] w fun e w' => e = .returned (.string ⟨l.toArray⟩) ∧ Below B w w' := Any.Builder_String_any Tryd.lays169 Tryd.Builder_Extra_169 B b l w h hBw
def Tryd.laysM171_ren : Go.Shelf.Ren := ⟨fun | 171 => 55 | 243 => 106 | 246 => 135 | 283 => 147 | 284 => 148 | 285 => 149 | 286 => 150 | 129 => 158 | 317 => 157 | 318 => 159 | 319 => 160 | 320 => 161 | 337 => 163 | 338 => 164 | n => n, fun | 3 => 3 | 9 => 9 | 2 => 2 | 4 => 4 | 171 => 204 | 0 => 0 | 53 => 105 | 37 => 165 | 5 => 5 | 173 => 207 | 212 => 216 | 51 => 217 | 20 => 20 | 213 => 218 | 46 => 220 | 232 => 226 | 233 => 227 | n => n, fun | 17 => 0 | 18 => 2 | 19 => 3 | n => n⟩
theorem Tryd.laysM171 : Go.Proofs.LaysM.n171 Tryd.prog Tryd.laysM171_ren := {
  mixed := by kernel_rfl
  f129 := Tryd.func158.trans (congrArg some (by kernel_rfl))
  f171 := Tryd.func55.trans (congrArg some (by kernel_rfl))
  f243 := Tryd.func106.trans (congrArg some (by kernel_rfl))
  f246 := Tryd.func135.trans (congrArg some (by kernel_rfl))
  f283 := Tryd.func147.trans (congrArg some (by kernel_rfl))
  f284 := Tryd.func148.trans (congrArg some (by kernel_rfl))
  f285 := Tryd.func149.trans (congrArg some (by kernel_rfl))
  f286 := Tryd.func150.trans (congrArg some (by kernel_rfl))
  f317 := Tryd.func157.trans (congrArg some (by kernel_rfl))
  f318 := Tryd.func159.trans (congrArg some (by kernel_rfl))
  f319 := Tryd.func160.trans (congrArg some (by kernel_rfl))
  f320 := Tryd.func161.trans (congrArg some (by kernel_rfl))
  f337 := Tryd.func163.trans (congrArg some (by kernel_rfl))
  f338 := Tryd.func164.trans (congrArg some (by kernel_rfl))
  t0 := Tryd.underlying0
  a0 := Tryd.isAgg0
  z0 := Tryd.sizeOf0
  v0 := Tryd.zeroValue0
  t2 := Tryd.underlying2
  a2 := Tryd.isAgg2
  z2 := Tryd.sizeOf2
  v2 := Tryd.zeroValue2
  t3 := Tryd.underlying3
  a3 := Tryd.isAgg3
  z3 := Tryd.sizeOf3
  v3 := Tryd.zeroValue3
  t4 := Tryd.underlying4
  a4 := Tryd.isAgg4
  z4 := Tryd.sizeOf4
  v4 := Tryd.zeroValue4
  t5 := Tryd.underlying5
  a5 := Tryd.isAgg5
  z5 := Tryd.sizeOf5
  v5 := Tryd.zeroValue5
  t9 := Tryd.underlying9
  a9 := Tryd.isAgg9
  z9 := Tryd.sizeOf9
  v9 := Tryd.zeroValue9
  t20 := Tryd.underlying20
  a20 := Tryd.isAgg20
  z20 := Tryd.sizeOf20
  v20 := Tryd.zeroValue20
  t37 := Tryd.underlying165
  a37 := Tryd.isAgg165
  z37 := Tryd.sizeOf165
  v37 := Tryd.zeroValue165
  t46 := Tryd.underlying220
  a46 := Tryd.isAgg220
  z46 := Tryd.sizeOf220
  v46 := Tryd.zeroValue220
  t51 := Tryd.underlying217
  a51 := Tryd.isAgg217
  z51 := Tryd.sizeOf217
  v51 := Tryd.zeroValue217
  t53 := Tryd.underlying105
  a53 := Tryd.isAgg105
  z53 := Tryd.sizeOf105
  v53 := Tryd.zeroValue105
  t171 := Tryd.underlying204
  a171 := Tryd.isAgg204
  z171 := Tryd.sizeOf204
  v171 := Tryd.zeroValue204
  t173 := Tryd.underlying207
  a173 := Tryd.isAgg207
  z173 := Tryd.sizeOf207
  v173 := Tryd.zeroValue207
  t212 := Tryd.underlying216
  a212 := Tryd.isAgg216
  z212 := Tryd.sizeOf216
  v212 := Tryd.zeroValue216
  t213 := Tryd.underlying218
  a213 := Tryd.isAgg218
  z213 := Tryd.sizeOf218
  t232 := Tryd.underlying226
  a232 := Tryd.isAgg226
  z232 := Tryd.sizeOf226
  v232 := Tryd.zeroValue226
  t233 := Tryd.underlying227
  a233 := Tryd.isAgg227
  z233 := Tryd.sizeOf227
  v233 := Tryd.zeroValue227
  g17 := by kernel_rfl
  g18 := by kernel_rfl
  g19 := by kernel_rfl
  i0 := by kernel_rfl
  i2 := by kernel_rfl
  i3 := by kernel_rfl
  i4 := by kernel_rfl
  i5 := by kernel_rfl
  i9 := by kernel_rfl
  i20 := by kernel_rfl
  i37 := by kernel_rfl
  i46 := by kernel_rfl
  i51 := by kernel_rfl
  i53 := by kernel_rfl
  i171 := by kernel_rfl
  i173 := by kernel_rfl
  i212 := by kernel_rfl
  i232 := by kernel_rfl
  i233 := by kernel_rfl
  m17 := by kernel_rfl
  m18 := by kernel_rfl
  m19 := by kernel_rfl }
open Go.RowKit Go.Sort Go.Lib in
/-- strconv.Itoa: "Itoa is equivalent to FormatInt(int64(i), 10).": i's DECIMAL NUMERAL ('Lib.itoa': a '-' where i is negative, then the digits), FOR EVERY int. The world behind the call: the world before it, new blocks behind the heap (the library's 'var a [24]byte'), draws. (LAID: no walk: one application.) -/
theorem Tryd.strconv_Itoa (n : Int) (h0 : -9223372036854775808 ≤ n) (h1 : n ≤ 9223372036854775807) (w : World) (htab : Lib.TabIs Tryd.prog w "internal/strconv.uint64pow10" .u64 Lib.pow10Tab) :
    Calls Tryd.prog 55 #[.int .i64 n] w fun e w' => e = .returned (.string ⟨(Lib.itoa n).toArray⟩) ∧ ∃ k os, w' = grow (w.drewN k) os := Any.strconv_Itoa Tryd.laysM171 n h0 h1 w htab
def Tryd.laysM173_ren : Go.Shelf.Ren := ⟨fun | 173 => 151 | 246 => 135 | 283 => 147 | 284 => 148 | 285 => 149 | 286 => 150 | 129 => 158 | 317 => 157 | 318 => 159 | 319 => 160 | 320 => 161 | 337 => 163 | 338 => 164 | n => n, fun | 2 => 2 | 3 => 3 | 9 => 9 | 4 => 4 | 171 => 204 | 0 => 0 | 53 => 105 | 37 => 165 | 5 => 5 | 173 => 207 | 212 => 216 | 51 => 217 | 20 => 20 | 213 => 218 | 46 => 220 | 232 => 226 | 233 => 227 | n => n, fun | 17 => 0 | 18 => 2 | 19 => 3 | n => n⟩
theorem Tryd.laysM173 : Go.Proofs.LaysM.n173 Tryd.prog Tryd.laysM173_ren := {
  mixed := by kernel_rfl
  f129 := Tryd.func158.trans (congrArg some (by kernel_rfl))
  f173 := Tryd.func151.trans (congrArg some (by kernel_rfl))
  f246 := Tryd.func135.trans (congrArg some (by kernel_rfl))
  f283 := Tryd.func147.trans (congrArg some (by kernel_rfl))
  f284 := Tryd.func148.trans (congrArg some (by kernel_rfl))
  f285 := Tryd.func149.trans (congrArg some (by kernel_rfl))
  f286 := Tryd.func150.trans (congrArg some (by kernel_rfl))
  f317 := Tryd.func157.trans (congrArg some (by kernel_rfl))
  f318 := Tryd.func159.trans (congrArg some (by kernel_rfl))
  f319 := Tryd.func160.trans (congrArg some (by kernel_rfl))
  f320 := Tryd.func161.trans (congrArg some (by kernel_rfl))
  f337 := Tryd.func163.trans (congrArg some (by kernel_rfl))
  f338 := Tryd.func164.trans (congrArg some (by kernel_rfl))
  t0 := Tryd.underlying0
  a0 := Tryd.isAgg0
  z0 := Tryd.sizeOf0
  v0 := Tryd.zeroValue0
  t2 := Tryd.underlying2
  a2 := Tryd.isAgg2
  z2 := Tryd.sizeOf2
  v2 := Tryd.zeroValue2
  t3 := Tryd.underlying3
  a3 := Tryd.isAgg3
  z3 := Tryd.sizeOf3
  v3 := Tryd.zeroValue3
  t4 := Tryd.underlying4
  a4 := Tryd.isAgg4
  z4 := Tryd.sizeOf4
  v4 := Tryd.zeroValue4
  t5 := Tryd.underlying5
  a5 := Tryd.isAgg5
  z5 := Tryd.sizeOf5
  v5 := Tryd.zeroValue5
  t9 := Tryd.underlying9
  a9 := Tryd.isAgg9
  z9 := Tryd.sizeOf9
  v9 := Tryd.zeroValue9
  t20 := Tryd.underlying20
  a20 := Tryd.isAgg20
  z20 := Tryd.sizeOf20
  v20 := Tryd.zeroValue20
  t37 := Tryd.underlying165
  a37 := Tryd.isAgg165
  z37 := Tryd.sizeOf165
  v37 := Tryd.zeroValue165
  t46 := Tryd.underlying220
  a46 := Tryd.isAgg220
  z46 := Tryd.sizeOf220
  v46 := Tryd.zeroValue220
  t51 := Tryd.underlying217
  a51 := Tryd.isAgg217
  z51 := Tryd.sizeOf217
  v51 := Tryd.zeroValue217
  t53 := Tryd.underlying105
  a53 := Tryd.isAgg105
  z53 := Tryd.sizeOf105
  v53 := Tryd.zeroValue105
  t171 := Tryd.underlying204
  a171 := Tryd.isAgg204
  z171 := Tryd.sizeOf204
  v171 := Tryd.zeroValue204
  t173 := Tryd.underlying207
  a173 := Tryd.isAgg207
  z173 := Tryd.sizeOf207
  v173 := Tryd.zeroValue207
  t212 := Tryd.underlying216
  a212 := Tryd.isAgg216
  z212 := Tryd.sizeOf216
  v212 := Tryd.zeroValue216
  t213 := Tryd.underlying218
  a213 := Tryd.isAgg218
  z213 := Tryd.sizeOf218
  t232 := Tryd.underlying226
  a232 := Tryd.isAgg226
  z232 := Tryd.sizeOf226
  v232 := Tryd.zeroValue226
  t233 := Tryd.underlying227
  a233 := Tryd.isAgg227
  z233 := Tryd.sizeOf227
  v233 := Tryd.zeroValue227
  g17 := by kernel_rfl
  g18 := by kernel_rfl
  g19 := by kernel_rfl
  i0 := by kernel_rfl
  i2 := by kernel_rfl
  i3 := by kernel_rfl
  i4 := by kernel_rfl
  i5 := by kernel_rfl
  i9 := by kernel_rfl
  i20 := by kernel_rfl
  i37 := by kernel_rfl
  i46 := by kernel_rfl
  i51 := by kernel_rfl
  i53 := by kernel_rfl
  i171 := by kernel_rfl
  i173 := by kernel_rfl
  i212 := by kernel_rfl
  i232 := by kernel_rfl
  i233 := by kernel_rfl
  m17 := by kernel_rfl
  m18 := by kernel_rfl
  m19 := by kernel_rfl }
open Go.RowKit Go.Sort Go.Lib in
/-- strconv.FormatInt: "FormatInt returns the string representation of i in the given base": AT BASE 10: i's decimal numeral, for every int64. (LAID: no walk: one application.) -/
theorem Tryd.strconv_FormatInt_10 (n : Int) (h0 : -9223372036854775808 ≤ n) (h1 : n ≤ 9223372036854775807) (w : World) (htab : Lib.TabIs Tryd.prog w "internal/strconv.uint64pow10" .u64 Lib.pow10Tab) :
    Calls Tryd.prog 151 #[.int .i64 n, .int .i64 10] w fun e w' => e = .returned (.string ⟨(Lib.itoa n).toArray⟩) ∧ ∃ k os, w' = grow (w.drewN k) os := Any.strconv_FormatInt_10 Tryd.laysM173 n h0 h1 w htab
def Tryd.laysC174_ren : Go.Shelf.Ren := ⟨fun | 174 => 172 | 247 => 175 | 245 => 176 | 287 => 177 | 279 => 178 | 280 => 179 | 281 => 180 | 282 => 181 | 321 => 182 | 322 => 183 | 316 => 184 | 171 => 55 | 205 => 185 | 243 => 106 | 246 => 135 | 283 => 147 | 284 => 148 | 285 => 149 | 286 => 150 | 129 => 158 | 317 => 157 | 318 => 159 | 319 => 160 | 320 => 161 | 337 => 163 | 338 => 164 | n => n, fun | 9 => 9 | 3 => 3 | 2 => 2 | 75 => 174 | 85 => 231 | 4 => 4 | 167 => 235 | 5 => 5 | 53 => 105 | 175 => 236 | 46 => 220 | 168 => 238 | 37 => 165 | 0 => 0 | 210 => 243 | 21 => 21 | 127 => 198 | 145 => 247 | 143 => 245 | 171 => 204 | 173 => 207 | 212 => 216 | 51 => 217 | 20 => 20 | 213 => 218 | 232 => 226 | 233 => 227 | 80 => 177 | n => n, fun | 15 => 4 | 16 => 5 | 17 => 0 | 18 => 2 | 19 => 3 | n => n⟩
theorem Tryd.laysC174 : Go.Proofs.LaysC.n174 Tryd.prog Tryd.laysC174_ren := {
  mixed := by kernel_rfl
  f129 := Tryd.func158.trans (congrArg some (by kernel_rfl))
  f171 := Tryd.func55.trans (congrArg some (by kernel_rfl))
  f174 := Tryd.func172.trans (congrArg some (by kernel_rfl))
  f205 := Tryd.func185.trans (congrArg some (by kernel_rfl))
  f243 := Tryd.func106.trans (congrArg some (by kernel_rfl))
  f245 := Tryd.func176.trans (congrArg some (by kernel_rfl))
  f246 := Tryd.func135.trans (congrArg some (by kernel_rfl))
  f247 := Tryd.func175.trans (congrArg some (by kernel_rfl))
  f279 := Tryd.func178.trans (congrArg some (by kernel_rfl))
  f280 := Tryd.func179.trans (congrArg some (by kernel_rfl))
  f281 := Tryd.func180.trans (congrArg some (by kernel_rfl))
  f282 := Tryd.func181.trans (congrArg some (by kernel_rfl))
  f283 := Tryd.func147.trans (congrArg some (by kernel_rfl))
  f284 := Tryd.func148.trans (congrArg some (by kernel_rfl))
  f285 := Tryd.func149.trans (congrArg some (by kernel_rfl))
  f286 := Tryd.func150.trans (congrArg some (by kernel_rfl))
  f287 := Tryd.func177.trans (congrArg some (by kernel_rfl))
  f316 := Tryd.func184.trans (congrArg some (by kernel_rfl))
  f317 := Tryd.func157.trans (congrArg some (by kernel_rfl))
  f318 := Tryd.func159.trans (congrArg some (by kernel_rfl))
  f319 := Tryd.func160.trans (congrArg some (by kernel_rfl))
  f320 := Tryd.func161.trans (congrArg some (by kernel_rfl))
  f321 := Tryd.func182.trans (congrArg some (by kernel_rfl))
  f322 := Tryd.func183.trans (congrArg some (by kernel_rfl))
  f337 := Tryd.func163.trans (congrArg some (by kernel_rfl))
  f338 := Tryd.func164.trans (congrArg some (by kernel_rfl))
  t0 := Tryd.underlying0
  a0 := Tryd.isAgg0
  z0 := Tryd.sizeOf0
  v0 := Tryd.zeroValue0
  t2 := Tryd.underlying2
  a2 := Tryd.isAgg2
  z2 := Tryd.sizeOf2
  v2 := Tryd.zeroValue2
  t3 := Tryd.underlying3
  a3 := Tryd.isAgg3
  z3 := Tryd.sizeOf3
  v3 := Tryd.zeroValue3
  t4 := Tryd.underlying4
  a4 := Tryd.isAgg4
  z4 := Tryd.sizeOf4
  v4 := Tryd.zeroValue4
  t5 := Tryd.underlying5
  a5 := Tryd.isAgg5
  z5 := Tryd.sizeOf5
  v5 := Tryd.zeroValue5
  t9 := Tryd.underlying9
  a9 := Tryd.isAgg9
  z9 := Tryd.sizeOf9
  v9 := Tryd.zeroValue9
  t20 := Tryd.underlying20
  a20 := Tryd.isAgg20
  z20 := Tryd.sizeOf20
  v20 := Tryd.zeroValue20
  t21 := Tryd.underlying21
  a21 := Tryd.isAgg21
  z21 := Tryd.sizeOf21
  v21 := Tryd.zeroValue21
  t37 := Tryd.underlying165
  a37 := Tryd.isAgg165
  z37 := Tryd.sizeOf165
  v37 := Tryd.zeroValue165
  t46 := Tryd.underlying220
  a46 := Tryd.isAgg220
  z46 := Tryd.sizeOf220
  v46 := Tryd.zeroValue220
  t51 := Tryd.underlying217
  a51 := Tryd.isAgg217
  z51 := Tryd.sizeOf217
  v51 := Tryd.zeroValue217
  t53 := Tryd.underlying105
  a53 := Tryd.isAgg105
  z53 := Tryd.sizeOf105
  v53 := Tryd.zeroValue105
  t75 := Tryd.underlying174
  a75 := Tryd.isAgg174
  z75 := Tryd.sizeOf174
  v75 := Tryd.zeroValue174
  t85 := Tryd.underlying231
  a85 := Tryd.isAgg231
  z85 := Tryd.sizeOf231
  v85 := Tryd.zeroValue231
  t127 := Tryd.underlying198
  a127 := Tryd.isAgg198
  z127 := Tryd.sizeOf198
  v127 := Tryd.zeroValue198
  t143 := Tryd.underlying245
  a143 := Tryd.isAgg245
  z143 := Tryd.sizeOf245
  v143 := Tryd.zeroValue245
  t145 := Tryd.underlying247
  a145 := Tryd.isAgg247
  z145 := Tryd.sizeOf247
  v145 := Tryd.zeroValue247
  t167 := Tryd.underlying235
  a167 := Tryd.isAgg235
  z167 := Tryd.sizeOf235
  v167 := Tryd.zeroValue235
  t168 := Tryd.underlying238
  a168 := Tryd.isAgg238
  z168 := Tryd.sizeOf238
  v168 := Tryd.zeroValue238
  t171 := Tryd.underlying204
  a171 := Tryd.isAgg204
  z171 := Tryd.sizeOf204
  v171 := Tryd.zeroValue204
  t173 := Tryd.underlying207
  a173 := Tryd.isAgg207
  z173 := Tryd.sizeOf207
  v173 := Tryd.zeroValue207
  t175 := Tryd.underlying236
  a175 := Tryd.isAgg236
  z175 := Tryd.sizeOf236
  v175 := Tryd.zeroValue236
  t210 := Tryd.underlying243
  a210 := Tryd.isAgg243
  z210 := Tryd.sizeOf243
  v210 := Tryd.zeroValue243
  t212 := Tryd.underlying216
  a212 := Tryd.isAgg216
  z212 := Tryd.sizeOf216
  v212 := Tryd.zeroValue216
  t213 := Tryd.underlying218
  a213 := Tryd.isAgg218
  z213 := Tryd.sizeOf218
  t232 := Tryd.underlying226
  a232 := Tryd.isAgg226
  z232 := Tryd.sizeOf226
  v232 := Tryd.zeroValue226
  t233 := Tryd.underlying227
  a233 := Tryd.isAgg227
  z233 := Tryd.sizeOf227
  v233 := Tryd.zeroValue227
  g15 := by kernel_rfl
  g16 := by kernel_rfl
  g17 := by kernel_rfl
  g18 := by kernel_rfl
  g19 := by kernel_rfl
  t80 := Tryd.underlying177
  a80 := Tryd.isAgg177
  z80 := Tryd.sizeOf177
  v80 := Tryd.zeroValue177
  i0 := by kernel_rfl
  i2 := by kernel_rfl
  i3 := by kernel_rfl
  i4 := by kernel_rfl
  i5 := by kernel_rfl
  i9 := by kernel_rfl
  i20 := by kernel_rfl
  i21 := by kernel_rfl
  i37 := by kernel_rfl
  i46 := by kernel_rfl
  i51 := by kernel_rfl
  i53 := by kernel_rfl
  i75 := by kernel_rfl
  i80 := by kernel_rfl
  i85 := by kernel_rfl
  i127 := by kernel_rfl
  i143 := by kernel_rfl
  i145 := by kernel_rfl
  i167 := by kernel_rfl
  i168 := by kernel_rfl
  i171 := by kernel_rfl
  i173 := by kernel_rfl
  i175 := by kernel_rfl
  i210 := by kernel_rfl
  i212 := by kernel_rfl
  i232 := by kernel_rfl
  i233 := by kernel_rfl
  m15 := by kernel_rfl
  m16 := by kernel_rfl
  m17 := by kernel_rfl
  m18 := by kernel_rfl
  m19 := by kernel_rfl
  c0 := by kernel_rfl
  c2 := by kernel_rfl
  c3 := by kernel_rfl
  c4 := by kernel_rfl
  c5 := by kernel_rfl
  c9 := by kernel_rfl
  c20 := by kernel_rfl
  c21 := by kernel_rfl
  c37 := by kernel_rfl
  c46 := by kernel_rfl
  c51 := by kernel_rfl
  c53 := by kernel_rfl
  c75 := by kernel_rfl
  c80 := by kernel_rfl
  c85 := by kernel_rfl
  c127 := by kernel_rfl
  c143 := by kernel_rfl
  c145 := by kernel_rfl
  c167 := by kernel_rfl
  c168 := by kernel_rfl
  c171 := by kernel_rfl
  c173 := by kernel_rfl
  c175 := by kernel_rfl
  c210 := by kernel_rfl
  c212 := by kernel_rfl
  c213 := by kernel_rfl
  c232 := by kernel_rfl
  c233 := by kernel_rfl }
open Go.RowKit in
/-- strconv.ParseInt(s, 10, 64), AT EVERY STRING THAT SPELLS AN int64 ('Lib.parseIntB 64 s.data.toList = .ok v'): v, AND NO ERROR. (LAID: no walk: one application.) -/
theorem Tryd.strconv_ParseInt_10_at64_ok (s : ByteArray) (hmax : s.size ≤ 9223372036854775806) (v : Int) (h : Lib.parseIntB 64 s.data.toList = .ok v) (w : World) :
    Calls Tryd.prog 172 #[.string s, .int .i64 10, .int .i64 64] w fun e w' => e = .returned (.tuple #[.int .i64 v, .nilIface]) ∧ (w' = w ∨ ∃ t, w' = Lib.bytesWorld w 5 t) := Any.strconv_ParseInt_10_at64_ok Tryd.laysC174 s hmax v h w
open Go.RowKit in
theorem Tryd.strconv_ParseInt_10_at64_range_var (s : ByteArray) (hlim : s.size ≤ 281474976710656) (h : Lib.parseIntB 64 s.data.toList = .range) (tp : TypeId) (p : Value) (w : World) (hvar : w.var? Tryd.prog "strconv.ErrRange" = some #[.iface tp p]) :
    Calls Tryd.prog 172 #[.string s, .int .i64 10, .int .i64 64] w fun e w' => ∃ N, e = .returned (.tuple #[.int .i64 (Lib.intSat 64 s.data.toList), .iface 238 (.pointer (some ⟨N, 0, none⟩))]) ∧ w.heap.size ≤ N ∧ w'.heap[N]? = some (.cells #[.string ⟨#[80, 97, 114, 115, 101, 73, 110, 116]⟩, .string s, .iface tp p] 243 (0, 0)) ∧ Below w.heap.size w w' := Any.strconv_ParseInt_10_at64_range_var Tryd.laysC174 s hlim h tp p w hvar
def Tryd.lays99_ren : Go.Shelf.Ren := ⟨fun | 99 => 165 | 206 => 169 | n => n, fun | 9 => 9 | 4 => 4 | 3 => 3 | n => n, fun | n => n⟩
theorem Tryd.lays99 : Go.Proofs.Lays.n99 Tryd.prog Tryd.lays99_ren := {
  mixed := by kernel_rfl
  f99 := Tryd.func165.trans (congrArg some (by kernel_rfl))
  f206 := Tryd.func169.trans (congrArg some (by kernel_rfl))
  t3 := Tryd.underlying3
  a3 := Tryd.isAgg3
  z3 := Tryd.sizeOf3
  v3 := Tryd.zeroValue3
  t4 := Tryd.underlying4
  a4 := Tryd.isAgg4
  z4 := Tryd.sizeOf4
  v4 := Tryd.zeroValue4
  t9 := Tryd.underlying9
  a9 := Tryd.isAgg9
  z9 := Tryd.sizeOf9
  v9 := Tryd.zeroValue9 }
open Go.RowKit Go.Lib in
/-- strings.HasPrefix: "HasPrefix reports whether the string s begins with prefix.": IT RETURNS 'Lib.hasPrefix s prefix'; the world is as it was. (LAID: no walk: one application.) -/
theorem Tryd.strings_HasPrefix (s p : ByteArray) (w : World) :
    Calls Tryd.prog 165 #[.string s, .string p] w fun e w' => e = .returned (.bool (Lib.hasPrefix s.data.toList p.data.toList)) ∧ w' = w := Any.strings_HasPrefix Tryd.lays99 s p w
def Tryd.lays101_ren : Go.Shelf.Ren := ⟨fun | 101 => 171 | 208 => 174 | 206 => 169 | n => n, fun | 9 => 9 | 4 => 4 | 3 => 3 | n => n, fun | n => n⟩
theorem Tryd.lays101 : Go.Proofs.Lays.n101 Tryd.prog Tryd.lays101_ren := {
  mixed := by kernel_rfl
  f101 := Tryd.func171.trans (congrArg some (by kernel_rfl))
  f206 := Tryd.func169.trans (congrArg some (by kernel_rfl))
  f208 := Tryd.func174.trans (congrArg some (by kernel_rfl))
  t3 := Tryd.underlying3
  a3 := Tryd.isAgg3
  z3 := Tryd.sizeOf3
  v3 := Tryd.zeroValue3
  t4 := Tryd.underlying4
  a4 := Tryd.isAgg4
  z4 := Tryd.sizeOf4
  v4 := Tryd.zeroValue4
  t9 := Tryd.underlying9
  a9 := Tryd.isAgg9
  z9 := Tryd.sizeOf9
  v9 := Tryd.zeroValue9 }
open Go.RowKit Go.Lib in
/-- strings.TrimPrefix: "TrimPrefix returns s without the provided leading prefix string. If s doesn't start with prefix, s is returned unchanged.": IT RETURNS 'Lib.trimPrefix s prefix'; the world is as it was. (LAID: no walk: one application.) -/
theorem Tryd.strings_TrimPrefix (s p : ByteArray) (w : World) :
    Calls Tryd.prog 171 #[.string s, .string p] w fun e w' => e = .returned (.string ⟨(Lib.trimPrefix s.data.toList p.data.toList).toArray⟩) ∧ w' = w := Any.strings_TrimPrefix Tryd.lays101 s p w
end Go.Proofs
