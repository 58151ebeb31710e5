/- osierlaw10.awake, walked. A batch's text, read back: plainly. -/
import Derived.Test.YtgjknekoehfdfaaGreatDoorGo
import Derived.Test.YtgjknekoehfdfaaGreatDoorBbS
import Derived.Test.YtgjknekoehfdfaaGreatDoorCxS
import Derived.Test.YtgjknekoehfdfaaGreatDoorBcS
import Derived.KernelRfl
namespace Go.Proofs.YtgjknekoehfdfaaGreatDoor
open Go.RowKit
set_option linter.unusedVariables false

/-- change.Parse of a line. -/
theorem batch_line (s : ByteArray) (w : World) (hs : s.size ≤ 281474976710656) (hg : Glob w) (he : (lexR s.data.toList).e = 0) :
    Calls Tryz.prog 37 #[.string s] w (BPost w (batchT (lexR s.data.toList).ts)) :=
  batch_good s w _ fun W hb => open_good s W hs (hg.below hb) he
theorem batch_fault (s : ByteArray) (w : World) (hs : s.size ≤ 281474976710656) (hg : Glob w) (he : (lexR s.data.toList).e ≠ 0) :
    Calls Tryz.prog 37 #[.string s] w (BPost w (.bad (lexR s.data.toList).at_ (lexR s.data.toList).e)) :=
  batch_bad s w _ _ fun W hb => open_bad s W hs (hg.below hb) he
/-- What change.Parse tells of a line. -/
def parseB (s : List UInt8) : PR (List Chg) := if (lexR s).e = 0 then batchT (lexR s).ts else .bad (lexR s).at_ (lexR s).e
theorem batch_any (s : ByteArray) (w : World) (hs : s.size ≤ 281474976710656) (hg : Glob w) :
    Calls Tryz.prog 37 #[.string s] w (BPost w (parseB s.data.toList)) := by
  unfold parseB
  by_cases he : (lexR s.data.toList).e = 0
  · rw [if_pos he]
    exact batch_line s w hs hg he
  · rw [if_neg he]
    exact batch_fault s w hs hg he

end Go.Proofs.YtgjknekoehfdfaaGreatDoor
namespace Go.Proofs.YtgjknekoehfdfaaGreatDoor
open Go.RowKit
set_option linter.unusedVariables false

/-- What is told of any line. -/
theorem parseB_sure (l : List UInt8) : match parseB l with
    | .bad a e => 0 ≤ a ∧ a ≤ l.length ∧ e ≠ 0
    | .ok b _ => b.length ≤ 256 ∧ ∀ c ∈ b, isNameB c.rel = true ∧ ∀ u ∈ c.row, validB u.k u.n u.t = true ∧ RangeV u := by
  unfold parseB
  by_cases he : (lexR l).e = 0
  · rw [if_pos he]
    exact batchT_sure (lex_toksQ he (lex_ended he).1)
  · rw [if_neg he]
    have := lex_placeQ l he
    exact ⟨this.1, this.2, he⟩
end Go.Proofs.YtgjknekoehfdfaaGreatDoor
