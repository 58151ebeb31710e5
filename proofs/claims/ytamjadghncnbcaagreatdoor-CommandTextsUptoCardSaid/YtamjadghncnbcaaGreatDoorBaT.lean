/- change.Parse's deferred closure, walked; its named results; its doors. reader.Some, reader.List at osier/api.Value, walked (printed by lst.py). change.Parse's literals, read: the closure, the list. -/
import Derived.Test.YtamjadghncnbcaaGreatDoorGaT
import Derived.Test.YtamjadghncnbcaaGreatDoorBcT
import Derived.Test.YtamjadghncnbcaaGreatDoorGnT
import Derived.Test.YtamjadghncnbcaaGreatDoorGfT
import Derived.Test.YtamjadghncnbcaaGreatDoorGgT
import Derived.Defers
import Derived.Recover
namespace Go.Proofs.YtamjadghncnbcaaGreatDoor
open Go.RowKit
set_option linter.unusedVariables false
structure PB (w0:World) (n:Nat) (bv:Value) (w:World):Prop where
 q:Blk w n 30 #[bv]
 a:Blk w (n+1) 3 #[.int .i64 0]
 e:Blk w (n+1+1) 35 #[.int .i64 0]
 b:Below n w0 w
 s:n+3<=w.heap.size
section
variable {w0 w w' : World} {n : Nat} {bv bv' : Value}
theorem PB.below (h:PB w0 n bv w) (hb:Below (n+3) w w'):PB w0 n bv w' :=
 ⟨h.q.below hb (by omega),h.a.below hb (by omega),h.e.below hb (by omega),h.b.trans (hb.mono (by omega)),Nat.le_trans h.s hb.size⟩
theorem PB.mt {Ts:List TypeId} (h:PB w0 n bv w) (hm:MT (n+3) Ts w w'):PB w0 n bv w':=h.below (hm.below h.s)
theorem PB.keep (h:PB w0 n bv w) (hb:Below w.heap.size w w'):PB w0 n bv w':=h.below (hb.mono h.s)
theorem PB.mod {F:Nat->Prop} (h:PB w0 n bv w) (hm:Mod F w w') (hF:∀ k,F k->k=n∨n+3<=k) (hq:Blk w' n 30 #[bv']):PB w0 n bv' w' :=
 ⟨hq,h.a.mod hm (fun f=>by have:=hF _ f;omega),h.e.mod hm (fun f=>by have:=hF _ f;omega),h.b.trans (hm.below (by have:=h.s;omega) (fun i f=>by have:=hF _ f;omega)),Nat.le_trans h.s hm.size⟩
end
theorem PB.start (w:World):PB w w.heap.size (.slice none 0 0) (((w.alloc (.cells #[.slice none 0 0] 30)).alloc (.cells #[.int .i64 0] 3)).alloc (.cells #[.int .i64 0] 35)):=by
 refine⟨((Blk.new w _ _).alloc _).alloc _,?_,?_,balloc (balloc (balloc (Below.refl _ _) _) _) _,by simp⟩
 ·have:=(Blk.new (w.alloc (.cells #[.slice none 0 0] 30)) 3 #[.int .i64 0]).alloc (.cells #[.int .i64 0] 35)
  simpa using this
 ·have:=Blk.new ((w.alloc (.cells #[.slice none 0 0] 30)).alloc (.cells #[.int .i64 0] 3)) 35 #[.int .i64 0]
  simpa using this
theorem PB.fin {w0 w:World} {n:Nat} {x:Value} (h:PB w0 n x w) :
 PB w0 n x (((w.setCell ⟨n,0,none⟩ x).setCell ⟨n+1,0,none⟩ (.int .i64 0)).setCell ⟨n+1+1,0,none⟩ (.int .i64 0)) /\
 MT 0 [30,3,35] w (((w.setCell ⟨n,0,none⟩ x).setCell ⟨n+1,0,none⟩ (.int .i64 0)).setCell ⟨n+1+1,0,none⟩ (.int .i64 0)):=by
 have q1:=h.q.set_ 0 x
 have a1:=h.a.far (p:=⟨n,0,none⟩) (by intro q;simp only at q;omega) x
 have e1:=h.e.far (p:=⟨n,0,none⟩) (by intro q;simp only at q;omega) x
 have a4:=a1.set_ 0 (.int .i64 0)
 have q4:=q1.far (p:=⟨n+1,0,none⟩) (by intro q;simp only at q;omega) (.int .i64 0)
 have e4:=e1.far (p:=⟨n+1,0,none⟩) (by intro q;simp only at q;omega) (.int .i64 0)
 have e5:=e4.set_ 0 (.int .i64 0)
 have q5:=q4.far (p:=⟨n+1+1,0,none⟩) (by intro q;simp only at q;omega) (.int .i64 0)
 have a5:=a4.far (p:=⟨n+1+1,0,none⟩) (by intro q;simp only at q;omega) (.int .i64 0)
 simp only[Array.setIfInBounds] at q5 a5 e5
 refine⟨⟨by simpa using q5,by simpa using a5,by simpa using e5,((h.b.setCell (p:=⟨n,0,none⟩) (Nat.le_refl _) x).setCell (by simp only;omega) _).setCell (by simp only;omega) _,by simpa [World.setCell] using h.s⟩,?_⟩
 have m1:MT 0 [30,3,35] w _:=MT.setCell (i:=0) (MT.refl w) h.q (by simp) (Nat.zero_le _) x
 have m4:=MT.setCell (i:=0) m1 a1 (by simp) (Nat.zero_le _) (.int .i64 0)
 exact MT.setCell (i:=0) m4 e4 (by simp) (Nat.zero_le _) (.int .i64 0)
end Go.Proofs.YtamjadghncnbcaaGreatDoor
