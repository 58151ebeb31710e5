/- What the reach, and a bounded bulk, promise of a command's text. CommandTexts, of a command within the reach. -/
import Derived.Test.YtamjadghncnbcaaGreatDoorCtaZT
import Derived.Test.YtamjadghncnbcaaGreatDoorTpT
import Derived.Test.YtamjadghncnbcaaGreatDoorBbT
import Derived.Test.YtamjadghncnbcaaGreatDoorTx9ZT
namespace Go.Proofs.YtamjadghncnbcaaGreatDoor
open Go.RowKit
set_option linter.unusedVariables false
theorem BigC.txt {w:World} {cells:Array Value} {c:Cmd} {N:Nat} (h:BigC w cells c N) (hN:N<=1048576):TxtB c:=by
 have hb:c.b.length<=1048576:=Nat.le_trans h.bulk hN
 exact⟨h.rname,h.cols,h.qname,h.heads,fun a ha=>⟨(h.each a ha).1,fun t ht=>((h.each a ha).2 t ht).2⟩,fun a ha t ht=>((h.each a ha).2 t ht).1,h.batch,h.brel,hb,
  fun hg=>by
   have:=joinC_len (b:=c.b) (fun x hx=>List.all_eq_true.1 hg x hx) h.batch
   omega,h.name,h.id,h.n,h.row⟩
theorem cmdtexts_card (cells:Array Value) (c:Cmd) (w:World) {N:Nat} (h:BigC w cells c N) (hN:N<=1048576) (hg:GlobW w) :
 Calls Tryz.prog 4 #[.agg cells] w fun e w'=>e=.returned (.bool true)/\Below w.heap.size w w' :=
 cmdtexts_law w cells c h.at_ (h.txt hN) h.ncols h.natoms h.nb h.nrow hg
end Go.Proofs.YtamjadghncnbcaaGreatDoor
