/- schema.Parse's deferred closure, walked; its named results; its doors. reader.Some, reader.List at osier/api.Column, walked (printed by lst.py). schema.Parse's columns, read: the closure, the list. schema.Parse, walked. -/
import Derived.Test.YtamjadghncnbcaaGreatDoorGaT
import Derived.Test.YtamjadghncnbcaaGreatDoorKaT
import Derived.Test.YtamjadghncnbcaaGreatDoorGnT
import Derived.Test.YtamjadghncnbcaaGreatDoorGfT
import Derived.Test.YtamjadghncnbcaaGreatDoorGgT
import Derived.Defers
import Derived.Recover
namespace Go.Proofs.YtamjadghncnbcaaGreatDoor
open Go.RowKit
set_option linter.unusedVariables false
structure PS (w0:World) (n:Nat) (cs:Array Value) (w:World):Prop where
 q:Blk w n 25 cs
 a:Blk w (n+1) 3 #[.int .i64 0]
 e:Blk w (n+1+1) 35 #[.int .i64 0]
 b:Below n w0 w
 s:n+3<=w.heap.size
section
variable {w0 w w' : World} {n : Nat} {cs : Array Value}
theorem PS.below (h:PS w0 n cs w) (hb:Below (n+3) w w'):PS w0 n cs w' :=
 ⟨h.q.below hb (by omega),h.a.below hb (by omega),h.e.below hb (by omega),h.b.trans (hb.mono (by omega)),Nat.le_trans h.s hb.size⟩
theorem PS.mt {Ts:List TypeId} (h:PS w0 n cs w) (hm:MT (n+3) Ts w w'):PS w0 n cs w':=h.below (hm.below h.s)
theorem PS.keep (h:PS w0 n cs w) (hb:Below w.heap.size w w'):PS w0 n cs w':=h.below (hb.mono h.s)
theorem PS.store (h:PS w0 n cs w) (i:Nat) (u:Value):PS w0 n (cs.setIfInBounds i u) (w.setCell ⟨n,i,none⟩ u) :=
 ⟨h.q.set_ i u,h.a.far (by intro q;simp only at q;omega) u,h.e.far (by intro q;simp only at q;omega) u,h.b.setCell (Nat.le_refl _) u,by simpa [World.setCell] using h.s⟩
end
theorem PS.start (w:World):PS w w.heap.size #[.string ⟨#[]⟩,.slice none 0 0] (((w.alloc (.cells #[.string ⟨#[]⟩,.slice none 0 0] 25)).alloc (.cells #[.int .i64 0] 3)).alloc (.cells #[.int .i64 0] 35)):=by
 refine⟨((Blk.new w _ _).alloc _).alloc _,?_,?_,balloc (balloc (balloc (Below.refl _ _) _) _) _,by simp⟩
 ·have:=(Blk.new (w.alloc (.cells #[.string ⟨#[]⟩,.slice none 0 0] 25)) 3 #[.int .i64 0]).alloc (.cells #[.int .i64 0] 35)
  simpa using this
 ·have:=Blk.new ((w.alloc (.cells #[.string ⟨#[]⟩,.slice none 0 0] 25)).alloc (.cells #[.int .i64 0] 3)) 35 #[.int .i64 0]
  simpa using this
theorem PS.fin {w0 w:World} {n:Nat} {x y:Value} (h:PS w0 n #[x,y] w) :
 PS w0 n #[x,y] ((((w.setCell ⟨n,0,none⟩ x).setCell ⟨n,1,none⟩ y).setCell ⟨n+1,0,none⟩ (.int .i64 0)).setCell ⟨n+1+1,0,none⟩ (.int .i64 0)) /\
 MT 0 [25,3,35] w ((((w.setCell ⟨n,0,none⟩ x).setCell ⟨n,1,none⟩ y).setCell ⟨n+1,0,none⟩ (.int .i64 0)).setCell ⟨n+1+1,0,none⟩ (.int .i64 0)):=by
 have h1:=h.store 0 x
 have h2:=h1.store 1 y
 have a4:=h2.a.set_ 0 (.int .i64 0)
 have q4:=h2.q.far (p:=⟨n+1,0,none⟩) (by intro q;simp only at q;omega) (.int .i64 0)
 have e4:=h2.e.far (p:=⟨n+1,0,none⟩) (by intro q;simp only at q;omega) (.int .i64 0)
 have e5:=e4.set_ 0 (.int .i64 0)
 have q5:=q4.far (p:=⟨n+1+1,0,none⟩) (by intro q;simp only at q;omega) (.int .i64 0)
 have a5:=a4.far (p:=⟨n+1+1,0,none⟩) (by intro q;simp only at q;omega) (.int .i64 0)
 simp only[Array.setIfInBounds] at q5 a5 e5
 refine⟨⟨by simpa using q5,by simpa using a5,by simpa using e5,(h2.b.setCell (by simp only;omega) _).setCell (by simp only;omega) _,by simpa [World.setCell] using h.s⟩,?_⟩
 have m1:MT 0 [25,3,35] w _:=MT.setCell (i:=0) (MT.refl w) h.q (by simp) (Nat.zero_le _) x
 have m2:=MT.setCell (i:=1) m1 h1.q (by simp) (Nat.zero_le _) y
 have m4:=MT.setCell (i:=0) m2 h2.a (by simp) (Nat.zero_le _) (.int .i64 0)
 exact MT.setCell (i:=0) m4 e4 (by simp) (Nat.zero_le _) (.int .i64 0)
def PlB (B:Nat) (w:World) (bp:Nat) (ps:List Int):Prop:=∃ pv,Blk w bp 130 #[pv]/\IntsO B w pv ps
theorem PlB.mt {B B':Nat} {w w':World} {bp:Nat} {ps:List Int} {Ts:List TypeId} (h:PlB B w bp ps) (hm:MT B' Ts w w') (h1:130 ∉ Ts) (h2:3 ∉ Ts):PlB B w' bp ps:=by
 obtain⟨pv,h3,h4⟩:=h
 exact⟨pv,h3.mt hm h1,hm.ownsRow h4 h2⟩
end Go.Proofs.YtamjadghncnbcaaGreatDoor
