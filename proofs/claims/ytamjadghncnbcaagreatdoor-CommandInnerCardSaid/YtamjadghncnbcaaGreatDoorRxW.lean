/- Is there a k? plainly. slices.IndexFunc, ContainsFunc at osier/api.Value, walked, told by the place (printed by idxn.py). row.Valid and osierref02.Valid, walked. Texts while they are written; strings.Join of any list of texts. row.Show and osierref02.Show, walked. Lists of relations: what they are in memory. Does a row fit a relation? plainly. change.showOne, Show, walked. -/
import Derived.Test.YtamjadghncnbcaaGreatDoorGbW
import Derived.Test.YtamjadghncnbcaaGreatDoorBcW
import Derived.Test.YtamjadghncnbcaaGreatDoorLeW
import Derived.Test.YtamjadghncnbcaaGreatDoorGmW
import Derived.Test.YtamjadghncnbcaaGreatDoorShelfJ
import Derived.Test.YtamjadghncnbcaaGreatDoorKaW
import Derived.Test.YtamjadghncnbcaaGreatDoorGcW
import Derived.Test.YtamjadghncnbcaaGreatDoorLxW
import Derived.Shelf.Abstract
import Derived.Deep.RegionLaw
import Derived.Deep.RegionHeld3
import Derived.Lib.Join
namespace Go.Proofs.YtamjadghncnbcaaGreatDoor
set_option linter.unusedVariables false
end Go.Proofs.YtamjadghncnbcaaGreatDoor
namespace Go.Proofs.YtamjadghncnbcaaGreatDoor
open Go.RowKit
set_option linter.unusedVariables false
end Go.Proofs.YtamjadghncnbcaaGreatDoor
namespace Go.Proofs.YtamjadghncnbcaaGreatDoor
open Go.RowKit
set_option linter.unusedVariables false
end Go.Proofs.YtamjadghncnbcaaGreatDoor
namespace Go.Proofs.YtamjadghncnbcaaGreatDoor
open Go.RowKit
set_option linter.unusedVariables false
end Go.Proofs.YtamjadghncnbcaaGreatDoor
namespace Go.Proofs.YtamjadghncnbcaaGreatDoor
open Go.RowKit
set_option linter.unusedVariables false
end Go.Proofs.YtamjadghncnbcaaGreatDoor
namespace Go.Proofs.YtamjadghncnbcaaGreatDoor
open Go.RowKit
set_option linter.unusedVariables false
def RelC (w:World) (cells:List Value) (r:Rln):Prop:=∃ cv,cells=[.string ⟨r.name.toArray⟩,cv]/\ColsAt w cv r.cols/\r.cols.length<=5864062014634
def RelsAt (w:World) (v:Value) (l:List Rln):Prop:=∃ rows,RowAt w v 2 rows/\All2 (RelC w) rows l
theorem RelC.keep {w w':World} {row:List Value} {a:Rln} (h:RelC w row a) (hb:Below w.heap.size w w'):RelC w' row a:=by
 obtain⟨cv,rfl,h2,h3⟩:=h
 exact⟨cv,rfl,RowAt.keep h2 hb,h3⟩
theorem RelsAt.keep {w w':World} {v:Value} {l:List Rln} (h:RelsAt w v l) (hb:Below w.heap.size w w'):RelsAt w' v l:=by
 obtain⟨rows,h1,h2⟩:=h
 exact⟨rows,h1.keep hb,h2.mono fun b a hh=>hh.keep hb⟩
theorem RelsAt.form {w:World} {v:Value} {l:List Rln} (h:RelsAt w v l):∃ (ad:Option Addr) (cap:Nat),v=.slice ad l.length cap/\l.length<=cap/\cap<=maxLen:=by
 obtain⟨rows,h1,h2⟩:=h
 obtain⟨ad,cap,hv,h3,h4⟩:=h1.form
 rw[h2.length] at hv h3
 exact⟨ad,cap,hv,h3,h4⟩
theorem RelsAt.get {w:World} {v:Value} {l:List Rln} (h:RelsAt w v l) {i:Nat} {a:Rln} (hi:l[i]? = some a):∃ (b off cap:Nat) (cv:Value),v=.slice (some ⟨b,off,none⟩) l.length cap/\l.length<=cap/\cap<=maxLen/\b<w.heap.size /\
 w.cell? ⟨b,off+i * 2,none⟩=some (.string ⟨a.name.toArray⟩)/\w.cell? ⟨b,off+i * 2+1,none⟩=some cv/\ColsAt w cv a.cols/\a.cols.length<=5864062014634:=by
 obtain⟨rows,h1,h2⟩:=h
 obtain⟨row,hr,cv,rfl,h3,h4⟩:=h2.get hi
 obtain⟨b,off,cap,hv,h5,h6,h7,h8⟩:=h1.get hr
 rw[h2.length] at hv h5
 exact⟨b,off,cap,cv,hv,h5,h6,h7,h8 0 _ rfl,h8 1 _ rfl,h3,h4⟩
theorem RelsAt.len {w:World} {v:Value} {l:List Rln} (h:RelsAt w v l):l.length<=8796093022208:=by
 obtain⟨rows,h1,h2⟩:=h
 rw[<-h2.length]
 exact h1.len
theorem RelsAt.nil (w:World):RelsAt w (.slice none 0 0) []:=⟨[],RowAt.nil _ _,trivial⟩
def InQ (Q:Nat->Prop) (v:Value):Prop:=∀ k,v.ownBlock=some k->Q k
def RelO (Q:Nat->Prop) (w:World) (row:List Value) (c:Rln):Prop:=∃ cv,row=[.string ⟨c.name.toArray⟩,cv]/\ColsOwn 0 w cv c.cols/\InQ Q cv
def RelsOwn (Q:Nat->Prop) (w:World) (v:Value) (l:List Rln):Prop :=
 ∃ rows:List (List Value),w.ownsRow 0 25 2 v l.length rows.flatten/\InQ Q v/\All2 (RelO Q w) rows l
theorem RelO.mono {Q Q':Nat->Prop} {w:World} {row:List Value} {a:Rln} (h:RelO Q w row a) (hq:∀ k,k<w.heap.size->Q k->Q' k):RelO Q' w row a:=by
 obtain⟨cv,rfl,h2,h3⟩:=h
 exact⟨cv,rfl,h2,fun k hk=>hq k (World.ownsRow.lt h2 k hk).2 (h3 k hk)⟩
theorem RelO.mod {Q F:Nat->Prop} {w w':World} {row:List Value} {a:Rln} (h:RelO Q w row a) (hm:Mod F w w') (hn:∀ k,Q k->¬ F k):RelO Q w' row a:=by
 obtain⟨cv,rfl,h2,h3⟩:=h
 exact⟨cv,rfl,hm.ownsRow h2 (fun k hk=>hn k (h3 k hk)),h3⟩
theorem RelsOwn.mono {Q Q':Nat->Prop} {w:World} {v:Value} {l:List Rln} (h:RelsOwn Q w v l) (hq:∀ k,k<w.heap.size->Q k->Q' k):RelsOwn Q' w v l:=by
 obtain⟨rows,h1,h2,h3⟩:=h
 exact⟨rows,h1,fun k hk=>hq k (World.ownsRow.lt h1 k hk).2 (h2 k hk),h3.mono fun b a hh=>hh.mono hq⟩
theorem RelsOwn.mod {Q F:Nat->Prop} {w w':World} {v:Value} {l:List Rln} (h:RelsOwn Q w v l) (hm:Mod F w w') (hn:∀ k,Q k->¬ F k):RelsOwn Q w' v l:=by
 obtain⟨rows,h1,h2,h3⟩:=h
 exact⟨rows,hm.ownsRow h1 (fun k hk=>hn k (h2 k hk)),h2,h3.mono fun b a hh=>hh.mod hm hn⟩
theorem RelsOwn.keep {Q:Nat->Prop} {w w':World} {v:Value} {l:List Rln} (h:RelsOwn Q w v l) (hb:Below w.heap.size w w'):RelsOwn Q w' v l :=
 h.mod (Mod.ofBelow (F:=fun _=>False) hb) (fun _ _ f=>f)
theorem RelsOwn.at {Q:Nat->Prop} {w:World} {v:Value} {l:List Rln} (h:RelsOwn Q w v l) (hl:l.length<=8796093022208) (hr:∀ c∈l,c.cols.length<=5864062014634):RelsAt w v l:=by
 obtain⟨rows,h1,_,h2⟩:=h
 have hll:=h2.length
 refine⟨rows,RowAt.ofOwn h1 hll.symm ?_ (by omega),all2_and h2 fun c x hx hh=>?_⟩
 ·intro c hc
  obtain⟨x,_,cv,rfl,_⟩:=all2_mem h2 c hc
  rfl
 ·obtain⟨cv,rfl,ho,_⟩:=hh
  have hx2:=hr x hx
  exact⟨cv,rfl,ColsOwn.at ho (by omega),hx2⟩
end Go.Proofs.YtamjadghncnbcaaGreatDoor
namespace Go.Proofs.YtamjadghncnbcaaGreatDoor
open Go.RowKit
set_option linter.unusedVariables false
end Go.Proofs.YtamjadghncnbcaaGreatDoor
namespace Go.Proofs.YtamjadghncnbcaaGreatDoor
open Go.RowKit
set_option linter.unusedVariables false
end Go.Proofs.YtamjadghncnbcaaGreatDoor
