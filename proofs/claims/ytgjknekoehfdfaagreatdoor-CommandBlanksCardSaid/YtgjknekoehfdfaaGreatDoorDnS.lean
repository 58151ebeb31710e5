/- osierref08.Parse, walked. SchemaParses, walked. -/
import Derived.Test.YtgjknekoehfdfaaGreatDoorKfS
import Derived.Test.YtgjknekoehfdfaaGreatDoorKeS
import Derived.Test.YtgjknekoehfdfaaGreatDoorDo
namespace Go.Proofs.YtgjknekoehfdfaaGreatDoor
open Go.RowKit
set_option linter.unusedVariables false

end Go.Proofs.YtgjknekoehfdfaaGreatDoor
namespace Go.Proofs.YtgjknekoehfdfaaGreatDoor
open Go.RowKit
set_option linter.unusedVariables false

theorem sch_any (s : ByteArray) (w : World) (hs : s.size ≤ 281474976710656) (hg : Glob w) :
    Calls Tryz.prog 33 #[.string s] w (SPost w (refS (startS (lexR s.data.toList)))) := by
  unfold startS
  by_cases he : (lexR s.data.toList).e = 0
  · rw [if_pos he, refS_ok (lex_ended he).1]
    exact sch_line s w hs hg he
  · rw [if_neg he, refS_bad]
    exact sch_fault s w hs hg he
end Go.Proofs.YtgjknekoehfdfaaGreatDoor
