/- query.name, query.term and the closures that call them, walked. The lists of a query's names and terms, read. -/
import Derived.Test.YtamjadghncnbcaaGreatDoorGaT
namespace Go.Proofs.YtamjadghncnbcaaGreatDoor
open Go.RowKit
set_option linter.unusedVariables false
def termV (x:Trm × Int):List Value:=[.string ⟨x.1.x.toArray⟩,.int .i64 x.1.k,.int .i64 x.1.n,.string ⟨x.1.t.toArray⟩,.int .i64 x.2]
theorem tx_nil (w:World):TX w (.slice none 0 0) []:=⟨by simp,none,0,rfl,.inl rfl⟩
def InB (w:World) (b r:Nat):Prop:=Blk w b 80 #[.pointer (some ⟨r,0,none⟩)]
theorem InB.mt {w w':World} {b r B:Nat} {Ts:List TypeId} (h:InB w b r) (hm:MT B Ts w w') (ht:80 ∉ Ts):InB w' b r:=Blk.mt h hm ht
end Go.Proofs.YtamjadghncnbcaaGreatDoor
