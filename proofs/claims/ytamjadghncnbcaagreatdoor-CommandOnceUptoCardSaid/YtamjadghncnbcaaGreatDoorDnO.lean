/- osierref08.Parse, walked. SchemaParses, walked. -/
import Derived.Test.YtamjadghncnbcaaGreatDoorKfO
import Derived.Test.YtamjadghncnbcaaGreatDoorDoO
namespace Go.Proofs.YtamjadghncnbcaaGreatDoor
open Go.RowKit
set_option linter.unusedVariables false
theorem sch_any (s:ByteArray) (w:World) (hs:s.size<=281474976710656) (hg:Glob w) :
 Calls Tryz.prog 23 #[.string s] w (SPost w (refS (startS (lexR s.data.toList)))):=by
 unfold startS
 by_cases he:(lexR s.data.toList).e=0
 ·rw[if_pos he,refS_ok (lex_ended he).1]
  exact sch_line s w hs hg he
 ·rw[if_neg he,refS_bad]
  exact sch_fault s w hs hg he
theorem refS_small {l:List UInt8} {q:Rln} {c:List Tok} (h:refS (startS (lexR l))=.ok q c):q.cols.length<=5:=by
 unfold startS at h
 by_cases he:(lexR l).e=0
 ·rw[if_pos he,refS_ok (lex_ended he).1] at h
  exact schT_small h
 ·rw[if_neg he,refS_bad] at h
  cases h
end Go.Proofs.YtamjadghncnbcaaGreatDoor
