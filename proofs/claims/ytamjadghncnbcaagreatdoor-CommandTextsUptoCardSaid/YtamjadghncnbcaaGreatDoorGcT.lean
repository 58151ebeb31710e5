/- query.Parse's atoms, read: the closure, the list. query.Parse's deferred closure, walked; the state of Parse's named results. query.Parse's door, and a line that Open refuses. The read lists of query.Parse: atoms; what lies where. query.Parse's end: small facts, the door of a frame that returns. -/
import Derived.Test.YtamjadghncnbcaaGreatDoorGnT
import Derived.Test.YtamjadghncnbcaaGreatDoorGaT
import Derived.Test.YtamjadghncnbcaaGreatDoorGbT
import Derived.Deep.RegionHeld3
import Derived.Recover
import Derived.Defers
namespace Go.Proofs.YtamjadghncnbcaaGreatDoor
open Go.RowKit
set_option linter.unusedVariables false
def AtR (w:World) (cs:List Value) (x:(List UInt8 × Int) × List (Trm × Int)):Prop :=
 ∃ tv,cs=[.string ⟨x.1.1.toArray⟩,.int .i64 x.1.2,tv]/\w.ownsRow 0 148 5 tv x.2.length (x.2.flatMap termV)
structure PQ (w0:World) (n:Nat) (cs:Array Value) (w:World):Prop where
 q:Blk w n 29 cs
 a:Blk w (n+1) 3 #[.int .i64 0]
 e:Blk w (n+1+1) 35 #[.int .i64 0]
 b:Below n w0 w
 s:n+3<=w.heap.size
section
variable {w0 w w' : World} {n : Nat} {cs : Array Value}
theorem PQ.below (h:PQ w0 n cs w) (hb:Below (n+3) w w'):PQ w0 n cs w' :=
 ⟨h.q.below hb (by omega),h.a.below hb (by omega),h.e.below hb (by omega),h.b.trans (hb.mono (by omega)),Nat.le_trans h.s hb.size⟩
theorem PQ.mt {Ts:List TypeId} (h:PQ w0 n cs w) (hm:MT (n+3) Ts w w'):PQ w0 n cs w':=h.below (hm.below h.s)
theorem PQ.keep (h:PQ w0 n cs w) (hb:Below w.heap.size w w'):PQ w0 n cs w':=h.below (hb.mono h.s)
theorem PQ.store (h:PQ w0 n cs w) (i:Nat) (u:Value):PQ w0 n (cs.setIfInBounds i u) (w.setCell ⟨n,i,none⟩ u) :=
 ⟨h.q.set_ i u,h.a.far (by intro q;simp only at q;omega) u,h.e.far (by intro q;simp only at q;omega) u,h.b.setCell (Nat.le_refl _) u,by simpa [World.setCell] using h.s⟩
end
def AtomsOwn (B:Nat) (w:World) (v:Value) (al:List Atm):Prop :=
 ∃ rows:List (List Value),w.ownsRow B 67 2 v al.length rows.flatten/\All2 (fun row (a:Atm)=>∃ tv,row=[.string ⟨a.rel.toArray⟩,tv]/\w.ownsRow B 71 4 tv a.ts.length (a.ts.flatMap Trm.cells)) rows al
theorem PQ.start (w:World):PQ w w.heap.size #[.string ⟨#[]⟩,.slice none 0 0,.slice none 0 0] (((w.alloc (.cells #[.string ⟨#[]⟩,.slice none 0 0,.slice none 0 0] 29)).alloc (.cells #[.int .i64 0] 3)).alloc (.cells #[.int .i64 0] 35)):=by
 refine⟨((Blk.new w _ _).alloc _).alloc _,?_,?_,balloc (balloc (balloc (Below.refl _ _) _) _) _,by simp⟩
 ·have:=(Blk.new (w.alloc (.cells #[.string ⟨#[]⟩,.slice none 0 0,.slice none 0 0] 29)) 3 #[.int .i64 0]).alloc (.cells #[.int .i64 0] 35)
  simpa using this
 ·have:=Blk.new ((w.alloc (.cells #[.string ⟨#[]⟩,.slice none 0 0,.slice none 0 0] 29)).alloc (.cells #[.int .i64 0] 3)) 35 #[.int .i64 0]
  simpa using this
def AtsOwn (B0:Nat) (w:World) (v:Value) (xs:List AtP):Prop:=∃ css:List (List Value),w.ownsRow B0 145 3 v xs.length css.flatten/\All2 (AtR w) css xs
theorem AtR.mt {w w':World} {B:Nat} {Ts:List TypeId} {cs:List Value} {x:AtP} (h:AtR w cs x) (hm:MT B Ts w w') (ht:148 ∉ Ts):AtR w' cs x:=by
 obtain⟨tv,rfl,h2⟩:=h
 exact⟨tv,rfl,hm.ownsRow h2 ht⟩
theorem AtsOwn.mt {B0 B:Nat} {w w':World} {v:Value} {xs:List AtP} {Ts:List TypeId} (h:AtsOwn B0 w v xs) (hm:MT B Ts w w') (h1:145 ∉ Ts) (h2:148 ∉ Ts):AtsOwn B0 w' v xs:=by
 obtain⟨css,h3,h4⟩:=h
 exact⟨css,hm.ownsRow h3 h1,h4.mono fun c x hh=>hh.mt hm h2⟩
theorem AtsOwn.sl {B0:Nat} {w:World} {v:Value} {xs:List AtP} (h:AtsOwn B0 w v xs):∃ (a:Option Addr) (cap:Nat),v=.slice a xs.length cap:=by
 obtain⟨css,h3,h4⟩:=h
 exact own_sl h3
theorem map_flat {α:Type} (f:α->List Value) (l:List α):(l.map f).flatten=l.flatMap f:=by
 induction l with
 | nil=>rfl
 | cons a l ih=>simp [ih]
theorem all2_and {α β:Type} {R S:β->α->Prop}:∀ {bs:List β} {al:List α},All2 R bs al->(∀ b a,a∈al->R b a->S b a)->All2 S bs al
 | [],[],_,_=>trivial
 | _::_,_::_,h,hs=>⟨hs _ _ List.mem_cons_self h.1,all2_and h.2 fun b a ha=>hs b a (List.mem_cons_of_mem _ ha)⟩
 | [],_::_,h,_=>h.elim
 | _::_,[],h,_=>h.elim
theorem all2_mem {α β:Type} {R:β->α->Prop}:∀ {bs:List β} {al:List α},All2 R bs al->∀ b∈bs,∃ a,a∈al/\R b a
 | [],[],_,b,hb=>by simp at hb
 | b0::_,a0::_,h,b,hb=>by
   rcases List.mem_cons.1 hb with rfl | hb
   ·exact⟨a0,List.mem_cons_self,h.1⟩
   ·obtain⟨a,ha,hr⟩:=all2_mem h.2 b hb
    exact⟨a,List.mem_cons_of_mem _ ha,hr⟩
 | [],_::_,h,_,_=>h.elim
 | _::_,[],h,_,_=>h.elim
theorem AtsOwn.row {B0:Nat} {w:World} {v:Value} {xs:List AtP} (h:AtsOwn B0 w v xs) (hl:xs.length<=200000) (ht:∀ x∈xs,x.2.length<=200000):AtsAt w v xs:=by
 obtain⟨css,h3,h4⟩:=h
 have hll:=h4.length
 refine⟨css,RowAt.ofOwn h3 hll.symm ?_ (by omega),all2_and h4 fun c x hx hr=>?_⟩
 ·intro c hc
  obtain⟨x,_,tv,rfl,_⟩:=all2_mem h4 c hc
  rfl
 ·obtain⟨tv,rfl,ho⟩:=hr
  rw[<-map_flat] at ho
  refine⟨tv,rfl,RowAt.ofOwn ho (by simp) ?_ (by have:=ht x hx;simp;omega)⟩
  intro c hc
  simp at hc
  obtain⟨a,b,_,rfl⟩:=hc
  rfl
def AtmO (B:Nat) (w:World) (row:List Value) (a:Atm):Prop:=∃ tv,row=[.string ⟨a.rel.toArray⟩,tv]/\w.ownsRow B 71 4 tv a.ts.length (a.ts.flatMap Trm.cells)
theorem AtmO.mt {B B':Nat} {w w':World} {row:List Value} {a:Atm} {Ts:List TypeId} (h:AtmO B w row a) (hm:MT B' Ts w w') (ht:71 ∉ Ts):AtmO B w' row a:=by
 obtain⟨tv,rfl,h2⟩:=h
 exact⟨tv,rfl,hm.ownsRow h2 ht⟩
theorem Tryz.infoTrm:(Tryz.prog.info? 71).map (fun i=>(i.zero,i.size,i.bytes))=some (some (.agg #[.string ⟨#[]⟩,.int .i64 0,.int .i64 0,.string ⟨#[]⟩]),4,48):=by kernel_rfl
theorem Tryz.infoAtm:(Tryz.prog.info? 67).map (fun i=>(i.zero,i.size,i.bytes))=some (some (.agg #[.string ⟨#[]⟩,.slice none 0 0]),2,40):=by kernel_rfl
theorem atomsRow {B:Nat} {w:World} {v:Value} {n:Nat} {rows:List (List Value)} {al:List Atm} (h:w.ownsRow B 67 2 v n rows.flatten) (hn:n=al.length) (h2:All2 (AtmO B w) rows al) (hl:al.length<=200000) (ht:∀ a∈al,a.ts.length<=200000):AtomsAt w v al:=by
 have hll:=h2.length
 refine⟨rows,RowAt.ofOwn h (by omega) ?_ (by omega),all2_and h2 fun c x hx hr=>?_⟩
 ·intro c hc
  obtain⟨x,_,tv,rfl,_⟩:=all2_mem h2 c hc
  rfl
 ·obtain⟨tv,rfl,ho⟩:=hr
  rw[<-map_flat] at ho
  refine⟨tv,rfl,RowAt.ofOwn ho (by simp) ?_ (by have:=ht x hx;simp;omega),by have:=ht x hx;omega⟩
  intro c hc
  simp at hc
  obtain⟨a,_,rfl⟩:=hc
  rfl
theorem PQ.fin {w0 w:World} {n:Nat} {x y z:Value} (h:PQ w0 n #[x,y,z] w) :
 PQ w0 n #[x,y,z] (((((w.setCell ⟨n,0,none⟩ x).setCell ⟨n,1,none⟩ y).setCell ⟨n,2,none⟩ z).setCell ⟨n+1,0,none⟩ (.int .i64 0)).setCell ⟨n+1+1,0,none⟩ (.int .i64 0)) /\
 MT 0 [29,3,35] w (((((w.setCell ⟨n,0,none⟩ x).setCell ⟨n,1,none⟩ y).setCell ⟨n,2,none⟩ z).setCell ⟨n+1,0,none⟩ (.int .i64 0)).setCell ⟨n+1+1,0,none⟩ (.int .i64 0)):=by
 have h1:=h.store 0 x
 have h2:=h1.store 1 y
 have h3:=h2.store 2 z
 have a4:=h3.a.set_ 0 (.int .i64 0)
 have q4:=h3.q.far (p:=⟨n+1,0,none⟩) (by intro q;simp only at q;omega) (.int .i64 0)
 have e4:=h3.e.far (p:=⟨n+1,0,none⟩) (by intro q;simp only at q;omega) (.int .i64 0)
 have e5:=e4.set_ 0 (.int .i64 0)
 have q5:=q4.far (p:=⟨n+1+1,0,none⟩) (by intro q;simp only at q;omega) (.int .i64 0)
 have a5:=a4.far (p:=⟨n+1+1,0,none⟩) (by intro q;simp only at q;omega) (.int .i64 0)
 simp only[Array.setIfInBounds] at q5 a5 e5
 refine⟨⟨by simpa using q5,by simpa using a5,by simpa using e5,(h3.b.setCell (by simp only;omega) _).setCell (by simp only;omega) _,by simpa [World.setCell] using h.s⟩,?_⟩
 have m1:MT 0 [29,3,35] w _:=MT.setCell (i:=0) (MT.refl w) h.q (by simp) (Nat.zero_le _) x
 have m2:=MT.setCell (i:=1) m1 h1.q (by simp) (Nat.zero_le _) y
 have m3:=MT.setCell (i:=2) m2 h2.q (by simp) (Nat.zero_le _) z
 have m4:=MT.setCell (i:=0) m3 h3.a (by simp) (Nat.zero_le _) (.int .i64 0)
 exact MT.setCell (i:=0) m4 e4 (by simp) (Nat.zero_le _) (.int .i64 0)
end Go.Proofs.YtamjadghncnbcaaGreatDoor
