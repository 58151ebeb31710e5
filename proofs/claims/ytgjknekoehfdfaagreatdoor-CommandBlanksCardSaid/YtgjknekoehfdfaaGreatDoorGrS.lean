/- copy into a row that was just made, whatever the elements' cells; make: no program in sight. One element of a row of the call's own, stored into; a row just made: no program in sight. osierref02.Copy, Same and osierref09.CopyAtom, walked. -/
import Derived.Test.YtgjknekoehfdfaaGreatDoorGb
import Derived.Test.YtgjknekoehfdfaaGreatDoorLa
import Derived.Test.YtgjknekoehfdfaaGreatDoorGmS
import Derived.Test.YtgjknekoehfdfaaGreatDoorGg
import Derived.Laws.CopyOwn
import Derived.OwnWalk
import Derived.Laws.CopyRow
import Derived.Laws.MakeOwn
namespace Go.Proofs.YtgjknekoehfdfaaGreatDoor
open Go.RowKit
set_option linter.unusedVariables false
variable {P : Program}

end Go.Proofs.YtgjknekoehfdfaaGreatDoor
namespace Go.Proofs.YtgjknekoehfdfaaGreatDoor
open Go.RowKit
set_option linter.unusedVariables false
variable {P : Program}

end Go.Proofs.YtgjknekoehfdfaaGreatDoor
namespace Go.Proofs.YtgjknekoehfdfaaGreatDoor
open Go.RowKit
set_option linter.unusedVariables false

theorem vl_len (vs : List Vl) : ∀ x ∈ vs.map Vl.cells, x.length = 3 := by
  intro x hx
  simp at hx
  obtain ⟨t, _, rfl⟩ := hx
  rfl
end Go.Proofs.YtgjknekoehfdfaaGreatDoor
