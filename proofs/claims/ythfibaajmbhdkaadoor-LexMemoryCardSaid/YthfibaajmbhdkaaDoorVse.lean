/- The laws ValueScans, ValueReads: the parts joined. -/
import Derived.Test.YthfibaajmbhdkaaDoorVsc
import Derived.Test.YthfibaajmbhdkaaDoorVsnp
import Derived.Test.YthfibaajmbhdkaaDoorVsnq
import Derived.Test.YthfibaajmbhdkaaDoorVsnr
import Derived.Test.YthfibaajmbhdkaaDoorVsnm
import Derived.Test.YthfibaajmbhdkaaDoorVsno
import Derived.Test.YthfibaajmbhdkaaDoorVsnn
namespace Go.Proofs.YthfibaajmbhdkaaDoor
open Go.RowKit
set_option linter.unusedVariables false

theorem numOk : NumOk := by
  intro s a w ha hs hq
  by_cases hm : bt s.data.toList a = 45
  · rw [num_minus ha hm]
    by_cases he : (refNum s.data.toList a (a + 1)).e = 0
    · refine refMinusOka s a w ha hs hm hq ⟨he, fun h0 => ?_⟩
      unfold refNum at he
      split at he
      · simp [bad] at he
      · rw [if_pos ⟨h0, .inr (by omega)⟩] at he
        simp [bad] at he
    · by_cases hb : bt s.data.toList (a + 1) = 48
      · exact refMinusBada s a w ha hs hm hq ⟨he, hb⟩
      · exact refMinusBadb s a w ha hs hm hq ⟨he, hb⟩
  · rw [num_plain ha hm hq]
    by_cases he : (refNum s.data.toList a a).e = 0
    · by_cases hb : bt s.data.toList a = 48
      · exact refPlainOkb s a w ha hs hm hq ⟨he, hb⟩
      · exact refPlainOka s a w ha hs hm hq ⟨he, hb⟩
    · exact refPlainBad s a w ha hs hm hq he

theorem scans_law (s : ByteArray) (a : Int) (w : World) (hs : s.size ≤ 140737488351232) (h0 : -9223372036854775808 ≤ a) (h1 : a ≤ 9223372036854775807) (hg : Glob w) :
    Calls Tryd.prog 11 #[.string s, .int .i64 a] w fun e w' => e = .returned (.bool true) ∧ Below w.heap.size w w' := scans_law_of numOk s a w hs h0 h1 hg
theorem reads_law (s : ByteArray) (w : World) (hs : s.size ≤ 140737488351232) (hg : Glob w) :
    Calls Tryd.prog 12 #[.string s] w fun e w' => e = .returned (.bool true) ∧ Below w.heap.size w w' := reads_law_of numOk s w hs hg
end Go.Proofs.YthfibaajmbhdkaaDoor
