/- osierref25.Words, walked. -/
import Derived.Test.YtamjadghncnbcaaGreatDoorDaT
import Derived.Test.YtamjadghncnbcaaGreatDoorGbT
namespace Go.Proofs.YtamjadghncnbcaaGreatDoor
open Go.RowKit
set_option linter.unusedVariables false
def formsC:List (List UInt8):=[[100],[113],[110],[98],[110],[110],[105,107],[105],[105],[110],[110,107],[110,114],[110],[113],[113],[],[],[]]
set_option maxHeartbeats 4000000 in
set_option maxRecDepth 100000 in
theorem refWords_any (w:World) :
 Calls Tryz.prog 52 #[] w fun e w'=>e=.returned (.tuple #[.slice (some ⟨w.heap.size,0,none⟩) 18 18,.slice (some ⟨w.heap.size+1,0,none⟩) 18 18])/\Blk w' w.heap.size 9 (wordsC.map fun s=>Value.string ⟨s.toArray⟩).toArray/\Blk w' (w.heap.size+1) 9 (formsC.map fun s=>Value.string ⟨s.toArray⟩).toArray/\Below w.heap.size w w':=by
 have h1:=(Blk.new w 9 (wordsC.map fun s=>Value.string ⟨s.toArray⟩).toArray).alloc (.cells (formsC.map fun s=>Value.string ⟨s.toArray⟩).toArray 9)
 have h2:=blkNew1 w (.cells (wordsC.map fun s=>Value.string ⟨s.toArray⟩).toArray 9) 9 (formsC.map fun s=>Value.string ⟨s.toArray⟩).toArray
 have h3:Below w.heap.size w ((w.alloc (.cells (wordsC.map fun s=>Value.string ⟨s.toArray⟩).toArray 9)).alloc (.cells (formsC.map fun s=>Value.string ⟨s.toArray⟩).toArray 9)):=balloc (balloc (Below.refl _ _) _) _
 have H:=Lib.hid (And.intro h1 (And.intro h2 h3))
 clear h1 h2 h3
 go_enter Tryz.func52,Tryz.ntmps52
 go_wp2_with fail
 exact bodyPost_ret (v:=.tuple #[.slice (some ⟨w.heap.size,0,none⟩) 18 18,.slice (some ⟨w.heap.size+1,0,none⟩) 18 18]) (by simp [results,Tryz.results52,go_sem]) rfl ⟨rfl,H.out⟩
end Go.Proofs.YtamjadghncnbcaaGreatDoor
