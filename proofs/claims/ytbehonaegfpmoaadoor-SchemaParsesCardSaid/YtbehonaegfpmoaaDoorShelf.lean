/-
  DERIVED: THE SHELF's CONTRACTS AT THIS DUMP, IN PLAIN WORDS (tools/lay-plain.mjs out of 'TrydShelf.lean', which tools/lay-shelf.mjs wrote): THE SAME DECLARATIONS UNDER THE SAME NAMES: 'import', 'namespace', 'open', 'def', 'theorem' AND NOTHING ELSE: no command of the shelf's: FOR A HAND-IN. Each laying: the table of numbers ('.._ren') and one theorem, a field a fact of the dump's own or the kernel's comparison; each contract: ONE APPLICATION.
-/
import Derived.Shelf.Strings.Builder1
import Derived.Shelf.Strings.Builder2
import Derived.Shelf.Strings.BuilderF
import Derived.Shelf.Strings.BuilderK
import Derived.Shelf.Strconv.Itoa0
import Derived.Shelf.Strconv.Itoa1
import Derived.Shelf.LaysM
import Derived.Shelf.Strconv.ParseIntEmpty
import Derived.Shelf.Strconv.Clone
import Derived.Shelf.Strconv.SyntaxError
import Derived.Shelf.LaysC
import Derived.Shelf.Strconv.ToError
import Derived.Shelf.Strconv.Lower
import Derived.Shelf.Strconv.ParseUint10
import Derived.Shelf.Strconv.ParseUint10Empty
import Derived.Shelf.Strconv.ParseUint10Any
import Derived.Shelf.Strconv.ParseInt10
import Derived.Shelf.Strconv.RangeError
import Derived.Shelf.Strconv.ToErrorRange
import Derived.Shelf.Strconv.ParseUintEmpty
import Derived.Shelf.Strconv.ParseUint10b64
import Derived.Shelf.Strconv.ParseUint10b32
import Derived.Shelf.Strconv.ParseUint10b16
import Derived.Shelf.Strconv.ParseUint10b8
import Derived.Shelf.Strconv.ParseUint10At
import Derived.Shelf.Strconv.ParseInt10At64
import Derived.Shelf.Strconv.ParseInt10At32
import Derived.Shelf.Strconv.ParseInt10At16
import Derived.Shelf.Strconv.ParseInt10At8
import Derived.Shelf.Strconv.ParseInt10All
import Derived.Shelf.Strconv.ParseIntPublic10
import Derived.Shelf.Strconv.ErrVarParseInt
import Derived.Shelf.Strings.Prefix
import Derived.Test.YtbehonaegfpmoaaDoorProg
namespace Go.Proofs
open Go.Shelf
def Tryd.laysC174_ren : Go.Shelf.Ren := ⟨fun | 174 => 153 | 247 => 156 | 245 => 157 | 287 => 158 | 279 => 159 | 280 => 160 | 281 => 161 | 282 => 162 | 321 => 163 | 322 => 164 | 316 => 165 | 171 => 93 | 205 => 166 | 243 => 118 | 246 => 125 | 283 => 131 | 284 => 132 | 285 => 133 | 286 => 134 | 129 => 138 | 317 => 137 | 318 => 139 | 319 => 140 | 320 => 141 | 337 => 148 | 338 => 149 | n => n, fun | 9 => 9 | 3 => 3 | 2 => 2 | 75 => 181 | 85 => 218 | 4 => 4 | 167 => 224 | 5 => 5 | 53 => 155 | 175 => 225 | 46 => 210 | 168 => 227 | 37 => 176 | 0 => 0 | 210 => 232 | 21 => 21 | 127 => 190 | 145 => 236 | 143 => 234 | 171 => 196 | 173 => 199 | 212 => 207 | 51 => 208 | 20 => 20 | 213 => 209 | 232 => 220 | 233 => 221 | 80 => 184 | n => n, fun | 15 => 4 | 16 => 5 | 17 => 1 | 18 => 2 | 19 => 3 | n => n⟩
theorem Tryd.laysC174 : Go.Proofs.LaysC.n174 Tryd.prog Tryd.laysC174_ren := {
  mixed := by kernel_rfl
  f129 := Tryd.func138.trans (congrArg some (by kernel_rfl))
  f171 := Tryd.func93.trans (congrArg some (by kernel_rfl))
  f174 := Tryd.func153.trans (congrArg some (by kernel_rfl))
  f205 := Tryd.func166.trans (congrArg some (by kernel_rfl))
  f243 := Tryd.func118.trans (congrArg some (by kernel_rfl))
  f245 := Tryd.func157.trans (congrArg some (by kernel_rfl))
  f246 := Tryd.func125.trans (congrArg some (by kernel_rfl))
  f247 := Tryd.func156.trans (congrArg some (by kernel_rfl))
  f279 := Tryd.func159.trans (congrArg some (by kernel_rfl))
  f280 := Tryd.func160.trans (congrArg some (by kernel_rfl))
  f281 := Tryd.func161.trans (congrArg some (by kernel_rfl))
  f282 := Tryd.func162.trans (congrArg some (by kernel_rfl))
  f283 := Tryd.func131.trans (congrArg some (by kernel_rfl))
  f284 := Tryd.func132.trans (congrArg some (by kernel_rfl))
  f285 := Tryd.func133.trans (congrArg some (by kernel_rfl))
  f286 := Tryd.func134.trans (congrArg some (by kernel_rfl))
  f287 := Tryd.func158.trans (congrArg some (by kernel_rfl))
  f316 := Tryd.func165.trans (congrArg some (by kernel_rfl))
  f317 := Tryd.func137.trans (congrArg some (by kernel_rfl))
  f318 := Tryd.func139.trans (congrArg some (by kernel_rfl))
  f319 := Tryd.func140.trans (congrArg some (by kernel_rfl))
  f320 := Tryd.func141.trans (congrArg some (by kernel_rfl))
  f321 := Tryd.func163.trans (congrArg some (by kernel_rfl))
  f322 := Tryd.func164.trans (congrArg some (by kernel_rfl))
  f337 := Tryd.func148.trans (congrArg some (by kernel_rfl))
  f338 := Tryd.func149.trans (congrArg some (by kernel_rfl))
  t0 := Tryd.underlying0
  a0 := Tryd.isAgg0
  z0 := Tryd.sizeOf0
  v0 := Tryd.zeroValue0
  t2 := Tryd.underlying2
  a2 := Tryd.isAgg2
  z2 := Tryd.sizeOf2
  v2 := Tryd.zeroValue2
  t3 := Tryd.underlying3
  a3 := Tryd.isAgg3
  z3 := Tryd.sizeOf3
  v3 := Tryd.zeroValue3
  t4 := Tryd.underlying4
  a4 := Tryd.isAgg4
  z4 := Tryd.sizeOf4
  v4 := Tryd.zeroValue4
  t5 := Tryd.underlying5
  a5 := Tryd.isAgg5
  z5 := Tryd.sizeOf5
  v5 := Tryd.zeroValue5
  t9 := Tryd.underlying9
  a9 := Tryd.isAgg9
  z9 := Tryd.sizeOf9
  v9 := Tryd.zeroValue9
  t20 := Tryd.underlying20
  a20 := Tryd.isAgg20
  z20 := Tryd.sizeOf20
  v20 := Tryd.zeroValue20
  t21 := Tryd.underlying21
  a21 := Tryd.isAgg21
  z21 := Tryd.sizeOf21
  v21 := Tryd.zeroValue21
  t37 := Tryd.underlying176
  a37 := Tryd.isAgg176
  z37 := Tryd.sizeOf176
  v37 := Tryd.zeroValue176
  t46 := Tryd.underlying210
  a46 := Tryd.isAgg210
  z46 := Tryd.sizeOf210
  v46 := Tryd.zeroValue210
  t51 := Tryd.underlying208
  a51 := Tryd.isAgg208
  z51 := Tryd.sizeOf208
  v51 := Tryd.zeroValue208
  t53 := Tryd.underlying155
  a53 := Tryd.isAgg155
  z53 := Tryd.sizeOf155
  v53 := Tryd.zeroValue155
  t75 := Tryd.underlying181
  a75 := Tryd.isAgg181
  z75 := Tryd.sizeOf181
  v75 := Tryd.zeroValue181
  t85 := Tryd.underlying218
  a85 := Tryd.isAgg218
  z85 := Tryd.sizeOf218
  v85 := Tryd.zeroValue218
  t127 := Tryd.underlying190
  a127 := Tryd.isAgg190
  z127 := Tryd.sizeOf190
  v127 := Tryd.zeroValue190
  t143 := Tryd.underlying234
  a143 := Tryd.isAgg234
  z143 := Tryd.sizeOf234
  v143 := Tryd.zeroValue234
  t145 := Tryd.underlying236
  a145 := Tryd.isAgg236
  z145 := Tryd.sizeOf236
  v145 := Tryd.zeroValue236
  t167 := Tryd.underlying224
  a167 := Tryd.isAgg224
  z167 := Tryd.sizeOf224
  v167 := Tryd.zeroValue224
  t168 := Tryd.underlying227
  a168 := Tryd.isAgg227
  z168 := Tryd.sizeOf227
  v168 := Tryd.zeroValue227
  t171 := Tryd.underlying196
  a171 := Tryd.isAgg196
  z171 := Tryd.sizeOf196
  v171 := Tryd.zeroValue196
  t173 := Tryd.underlying199
  a173 := Tryd.isAgg199
  z173 := Tryd.sizeOf199
  v173 := Tryd.zeroValue199
  t175 := Tryd.underlying225
  a175 := Tryd.isAgg225
  z175 := Tryd.sizeOf225
  v175 := Tryd.zeroValue225
  t210 := Tryd.underlying232
  a210 := Tryd.isAgg232
  z210 := Tryd.sizeOf232
  v210 := Tryd.zeroValue232
  t212 := Tryd.underlying207
  a212 := Tryd.isAgg207
  z212 := Tryd.sizeOf207
  v212 := Tryd.zeroValue207
  t213 := Tryd.underlying209
  a213 := Tryd.isAgg209
  z213 := Tryd.sizeOf209
  t232 := Tryd.underlying220
  a232 := Tryd.isAgg220
  z232 := Tryd.sizeOf220
  v232 := Tryd.zeroValue220
  t233 := Tryd.underlying221
  a233 := Tryd.isAgg221
  z233 := Tryd.sizeOf221
  v233 := Tryd.zeroValue221
  g15 := by kernel_rfl
  g16 := by kernel_rfl
  g17 := by kernel_rfl
  g18 := by kernel_rfl
  g19 := by kernel_rfl
  t80 := Tryd.underlying184
  a80 := Tryd.isAgg184
  z80 := Tryd.sizeOf184
  v80 := Tryd.zeroValue184
  i0 := by kernel_rfl
  i2 := by kernel_rfl
  i3 := by kernel_rfl
  i4 := by kernel_rfl
  i5 := by kernel_rfl
  i9 := by kernel_rfl
  i20 := by kernel_rfl
  i21 := by kernel_rfl
  i37 := by kernel_rfl
  i46 := by kernel_rfl
  i51 := by kernel_rfl
  i53 := by kernel_rfl
  i75 := by kernel_rfl
  i80 := by kernel_rfl
  i85 := by kernel_rfl
  i127 := by kernel_rfl
  i143 := by kernel_rfl
  i145 := by kernel_rfl
  i167 := by kernel_rfl
  i168 := by kernel_rfl
  i171 := by kernel_rfl
  i173 := by kernel_rfl
  i175 := by kernel_rfl
  i210 := by kernel_rfl
  i212 := by kernel_rfl
  i232 := by kernel_rfl
  i233 := by kernel_rfl
  m15 := by kernel_rfl
  m16 := by kernel_rfl
  m17 := by kernel_rfl
  m18 := by kernel_rfl
  m19 := by kernel_rfl
  c0 := by kernel_rfl
  c2 := by kernel_rfl
  c3 := by kernel_rfl
  c4 := by kernel_rfl
  c5 := by kernel_rfl
  c9 := by kernel_rfl
  c20 := by kernel_rfl
  c21 := by kernel_rfl
  c37 := by kernel_rfl
  c46 := by kernel_rfl
  c51 := by kernel_rfl
  c53 := by kernel_rfl
  c75 := by kernel_rfl
  c80 := by kernel_rfl
  c85 := by kernel_rfl
  c127 := by kernel_rfl
  c143 := by kernel_rfl
  c145 := by kernel_rfl
  c167 := by kernel_rfl
  c168 := by kernel_rfl
  c171 := by kernel_rfl
  c173 := by kernel_rfl
  c175 := by kernel_rfl
  c210 := by kernel_rfl
  c212 := by kernel_rfl
  c213 := by kernel_rfl
  c232 := by kernel_rfl
  c233 := by kernel_rfl }
open Go.RowKit in
/-- strconv.ParseInt(s, 10, 64), AT EVERY STRING THAT SPELLS AN int64 ('Lib.parseIntB 64 s.data.toList = .ok v'): v, AND NO ERROR. (LAID: no walk: one application.) -/
theorem Tryd.strconv_ParseInt_10_at64_ok (s : ByteArray) (hmax : s.size ≤ 9223372036854775806) (v : Int) (h : Lib.parseIntB 64 s.data.toList = .ok v) (w : World) :
    Calls Tryd.prog 153 #[.string s, .int .i64 10, .int .i64 64] w fun e w' => e = .returned (.tuple #[.int .i64 v, .nilIface]) ∧ (w' = w ∨ ∃ t, w' = Lib.bytesWorld w 5 t) := Any.strconv_ParseInt_10_at64_ok Tryd.laysC174 s hmax v h w
open Go.RowKit in
theorem Tryd.strconv_ParseInt_10_at64_range_var (s : ByteArray) (hlim : s.size ≤ 281474976710656) (h : Lib.parseIntB 64 s.data.toList = .range) (tp : TypeId) (p : Value) (w : World) (hvar : w.var? Tryd.prog "strconv.ErrRange" = some #[.iface tp p]) :
    Calls Tryd.prog 153 #[.string s, .int .i64 10, .int .i64 64] w fun e w' => ∃ N, e = .returned (.tuple #[.int .i64 (Lib.intSat 64 s.data.toList), .iface 227 (.pointer (some ⟨N, 0, none⟩))]) ∧ w.heap.size ≤ N ∧ w'.heap[N]? = some (.cells #[.string ⟨#[80, 97, 114, 115, 101, 73, 110, 116]⟩, .string s, .iface tp p] 232 (0, 0)) ∧ Below w.heap.size w w' := Any.strconv_ParseInt_10_at64_range_var Tryd.laysC174 s hlim h tp p w hvar
def Tryd.lays99_ren : Go.Shelf.Ren := ⟨fun | 99 => 142 | 206 => 150 | n => n, fun | 9 => 9 | 4 => 4 | 3 => 3 | n => n, fun | n => n⟩
theorem Tryd.lays99 : Go.Proofs.Lays.n99 Tryd.prog Tryd.lays99_ren := {
  mixed := by kernel_rfl
  f99 := Tryd.func142.trans (congrArg some (by kernel_rfl))
  f206 := Tryd.func150.trans (congrArg some (by kernel_rfl))
  t3 := Tryd.underlying3
  a3 := Tryd.isAgg3
  z3 := Tryd.sizeOf3
  v3 := Tryd.zeroValue3
  t4 := Tryd.underlying4
  a4 := Tryd.isAgg4
  z4 := Tryd.sizeOf4
  v4 := Tryd.zeroValue4
  t9 := Tryd.underlying9
  a9 := Tryd.isAgg9
  z9 := Tryd.sizeOf9
  v9 := Tryd.zeroValue9 }
open Go.RowKit Go.Lib in
/-- strings.HasPrefix: "HasPrefix reports whether the string s begins with prefix.": IT RETURNS 'Lib.hasPrefix s prefix'; the world is as it was. (LAID: no walk: one application.) -/
theorem Tryd.strings_HasPrefix (s p : ByteArray) (w : World) :
    Calls Tryd.prog 142 #[.string s, .string p] w fun e w' => e = .returned (.bool (Lib.hasPrefix s.data.toList p.data.toList)) ∧ w' = w := Any.strings_HasPrefix Tryd.lays99 s p w
def Tryd.lays101_ren : Go.Shelf.Ren := ⟨fun | 101 => 152 | 208 => 155 | 206 => 150 | n => n, fun | 9 => 9 | 4 => 4 | 3 => 3 | n => n, fun | n => n⟩
theorem Tryd.lays101 : Go.Proofs.Lays.n101 Tryd.prog Tryd.lays101_ren := {
  mixed := by kernel_rfl
  f101 := Tryd.func152.trans (congrArg some (by kernel_rfl))
  f206 := Tryd.func150.trans (congrArg some (by kernel_rfl))
  f208 := Tryd.func155.trans (congrArg some (by kernel_rfl))
  t3 := Tryd.underlying3
  a3 := Tryd.isAgg3
  z3 := Tryd.sizeOf3
  v3 := Tryd.zeroValue3
  t4 := Tryd.underlying4
  a4 := Tryd.isAgg4
  z4 := Tryd.sizeOf4
  v4 := Tryd.zeroValue4
  t9 := Tryd.underlying9
  a9 := Tryd.isAgg9
  z9 := Tryd.sizeOf9
  v9 := Tryd.zeroValue9 }
open Go.RowKit Go.Lib in
/-- strings.TrimPrefix: "TrimPrefix returns s without the provided leading prefix string. If s doesn't start with prefix, s is returned unchanged.": IT RETURNS 'Lib.trimPrefix s prefix'; the world is as it was. (LAID: no walk: one application.) -/
theorem Tryd.strings_TrimPrefix (s p : ByteArray) (w : World) :
    Calls Tryd.prog 152 #[.string s, .string p] w fun e w' => e = .returned (.string ⟨(Lib.trimPrefix s.data.toList p.data.toList).toArray⟩) ∧ w' = w := Any.strings_TrimPrefix Tryd.lays101 s p w

end Go.Proofs
