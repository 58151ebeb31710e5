/- osierref08.Copy, Same over the same, walked. schema.Show, walked. osierlaw08.awake, walked. -/
import Derived.Test.YtgjknekoehfdfaaGreatDoorKa
import Derived.Test.YtgjknekoehfdfaaGreatDoorGmS
import Derived.Test.YtgjknekoehfdfaaGreatDoorGrS
import Derived.Test.YtgjknekoehfdfaaGreatDoorKbS
import Derived.Test.YtgjknekoehfdfaaGreatDoorShelfJ
import Derived.Test.YtgjknekoehfdfaaGreatDoorGo
import Derived.Test.YtgjknekoehfdfaaGreatDoorKd
import Derived.Deep.RegionLaw
import Derived.Deep.QuietTactic
import Derived.BigQuiet
import Derived.OwnWalk
import Derived.KernelRfl
namespace Go.Proofs.YtgjknekoehfdfaaGreatDoor
open Go.RowKit
set_option linter.unusedVariables false

end Go.Proofs.YtgjknekoehfdfaaGreatDoor
namespace Go.Proofs.YtgjknekoehfdfaaGreatDoor
open Go.RowKit
set_option linter.unusedVariables false

end Go.Proofs.YtgjknekoehfdfaaGreatDoor
namespace Go.Proofs.YtgjknekoehfdfaaGreatDoor
open Go.RowKit
set_option linter.unusedVariables false

/-- schema.Parse of a line that is cut into tokens. -/
theorem sch_line (s : ByteArray) (w : World) (hs : s.size ≤ 281474976710656) (hg : Glob w) (he : (lexR s.data.toList).e = 0) :
    Calls Tryz.prog 33 #[.string s] w (SPost w (schT (lexR s.data.toList).ts)) :=
  sch_good s w _ fun W hb => open_good s W hs (hg.below hb) he
theorem sch_fault (s : ByteArray) (w : World) (hs : s.size ≤ 281474976710656) (hg : Glob w) (he : (lexR s.data.toList).e ≠ 0) :
    Calls Tryz.prog 33 #[.string s] w (SPost w (.bad (lexR s.data.toList).at_ (lexR s.data.toList).e)) :=
  sch_bad s w _ _ fun W hb => open_bad s W hs (hg.below hb) he

end Go.Proofs.YtgjknekoehfdfaaGreatDoor
