/-
  DERIVED: THE SHELF's CONTRACTS AT THIS DUMP, IN PLAIN WORDS (tools/lay-plain.mjs out of 'TrydShelfJ.lean', which tools/lay-shelf.mjs wrote): THE SAME DECLARATIONS UNDER THE SAME NAMES: 'import', 'namespace', 'open', 'def', 'theorem' AND NOTHING ELSE: no command of the shelf's: FOR A HAND-IN. Each laying: the table of numbers ('.._ren') and one theorem, a field a fact of the dump's own or the kernel's comparison; each contract: ONE APPLICATION.
-/
import Derived.Shelf.Strings.Builder1
import Derived.Shelf.Strings.Builder2
import Derived.Shelf.Strings.OnBuilder
import Derived.Test.YtbehonaegfpmoaaDoorProg
namespace Go.Proofs
open Go.Shelf
def Tryd.lays156_ren : Go.Shelf.Ren := ⟨fun | 156 => 91 | 165 => 115 | 166 => 116 | 169 => 117 | 240 => 123 | 241 => 124 | 276 => 129 | 277 => 130 | n => n, fun | 31 => 22 | 9 => 9 | 3 => 3 | 4 => 4 | 0 => 0 | 20 => 20 | 72 => 178 | 76 => 182 | 70 => 175 | 37 => 176 | 75 => 181 | 127 => 190 | 164 => 193 | 5 => 5 | 80 => 184 | n => n, fun | n => n⟩
theorem Tryd.lays156 : Go.Proofs.Lays.n156 Tryd.prog Tryd.lays156_ren := {
  mixed := by kernel_rfl
  f156 := Tryd.func91.trans (congrArg some (by kernel_rfl))
  f165 := Tryd.func115.trans (congrArg some (by kernel_rfl))
  f166 := Tryd.func116.trans (congrArg some (by kernel_rfl))
  f169 := Tryd.func117.trans (congrArg some (by kernel_rfl))
  f240 := Tryd.func123.trans (congrArg some (by kernel_rfl))
  f241 := Tryd.func124.trans (congrArg some (by kernel_rfl))
  f276 := Tryd.func129.trans (congrArg some (by kernel_rfl))
  f277 := Tryd.func130.trans (congrArg some (by kernel_rfl))
  t0 := Tryd.underlying0
  a0 := Tryd.isAgg0
  z0 := Tryd.sizeOf0
  v0 := Tryd.zeroValue0
  t3 := Tryd.underlying3
  a3 := Tryd.isAgg3
  z3 := Tryd.sizeOf3
  v3 := Tryd.zeroValue3
  t4 := Tryd.underlying4
  a4 := Tryd.isAgg4
  z4 := Tryd.sizeOf4
  v4 := Tryd.zeroValue4
  t9 := Tryd.underlying9
  a9 := Tryd.isAgg9
  z9 := Tryd.sizeOf9
  v9 := Tryd.zeroValue9
  t20 := Tryd.underlying20
  a20 := Tryd.isAgg20
  z20 := Tryd.sizeOf20
  v20 := Tryd.zeroValue20
  t31 := Tryd.underlying22
  a31 := Tryd.isAgg22
  z31 := Tryd.sizeOf22
  v31 := Tryd.zeroValue22
  t37 := Tryd.underlying176
  a37 := Tryd.isAgg176
  z37 := Tryd.sizeOf176
  v37 := Tryd.zeroValue176
  t70 := Tryd.underlying175
  a70 := Tryd.isAgg175
  z70 := Tryd.sizeOf175
  v70 := Tryd.zeroValue175
  t72 := Tryd.underlying178
  a72 := Tryd.isAgg178
  z72 := Tryd.sizeOf178
  v72 := Tryd.zeroValue178
  t75 := Tryd.underlying181
  a75 := Tryd.isAgg181
  z75 := Tryd.sizeOf181
  v75 := Tryd.zeroValue181
  t76 := Tryd.underlying182
  a76 := Tryd.isAgg182
  z76 := Tryd.sizeOf182
  v76 := Tryd.zeroValue182
  t127 := Tryd.underlying190
  a127 := Tryd.isAgg190
  z127 := Tryd.sizeOf190
  v127 := Tryd.zeroValue190
  t164 := Tryd.underlying193
  a164 := Tryd.isAgg193
  z164 := Tryd.sizeOf193
  v164 := Tryd.zeroValue193 }
theorem Tryd.Builder_Extra_156 : Builder.Extra Tryd.prog Tryd.lays156_ren := {
  sizeBuilder := by kernel_rfl
  liesBuilder := by kernel_rfl
  t5 := Tryd.underlying5
  a5 := Tryd.isAgg5
  z5 := Tryd.sizeOf5
  v5 := Tryd.zeroValue5
  infoByte := by kernel_rfl
  cellsByte := by kernel_rfl
  sizeByte := by kernel_rfl
  neB5 := by decide }
open Go.RowKit in
/-- strings.Join: "Join concatenates the elements of its first argument to create a single string. The separator string sep is placed between elements in the resulting string.": HOWEVER MANY ELEMENTS. Below the heap's end the world is as it was. (LAID: no walk: one application.) -/
theorem Tryd.strings_Join (bk o c : Nat) (xs : List ByteArray) (sep : ByteArray) (w : World) (hcells : ∀ (j : Nat) x, xs[j]? = some x → w.cell? ⟨bk, o + j, none⟩ = some (.string x)) (hbk : bk < w.heap.size) (hN : xs.length ≤ 140737488355328) (hcap : xs.length ≤ c) (hlen : (Lib.join (xs.map (·.data.toList)) sep.data.toList).length ≤ 140737488355328) :
    Calls Tryd.prog 91 #[.slice (some ⟨bk, o, none⟩) xs.length c, .string sep] w fun e w' => e = .returned (.string ⟨(Lib.join (xs.map (·.data.toList)) sep.data.toList).toArray⟩) ∧ Below w.heap.size w w' := Any.strings_Join Tryd.lays156 Tryd.Builder_Extra_156 bk o c xs sep w hcells hbk hN hcap hlen
end Go.Proofs
