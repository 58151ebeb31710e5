/- The document's line and its reading of a query, plainly; it tells what the program's reading tells. The document's line (osierref08.Line), walked: Next. The document's line, walked: Is, Fail, More, Want; a line by its state. What the document's Parse keeps in memory. The document's line, walked: Want. -/
import Derived.Test.YtamjadghncnbcaaGreatDoorGaT
import Derived.Test.YtamjadghncnbcaaGreatDoorGcT
namespace Go.Proofs.YtamjadghncnbcaaGreatDoor
open Go.RowKit
set_option linter.unusedVariables false
inductive LS where
 | bad (a e:Int)
 | ok (c:List Tok)
def headT:List Tok->Tok
 | []=>tok0
 | t::_=>t
def wantT (k:Int) (x:List UInt8) (c:List Tok):Tok × LS:=if (headT c).k=k/\(x=[]∨(headT c).x=x) then (headT c,.ok (c.drop 1)) else (tok0,.bad (headT c).p 80)
def wantS (k:Int) (x:List UInt8):LS->Tok × LS
 | .bad a e=>(tok0,.bad a e)
 | .ok c=>wantT k x c
def isT (k:Int) (x:List UInt8) (c:List Tok):Bool:=decide ((headT c).k=k/\(headT c).x=x)
def isS (k:Int) (x:List UInt8):LS->Bool
 | .bad _ _=>false
 | .ok c=>isT k x c
def moreS (n:Nat):LS->Bool × LS
 | .bad a e=>(false,.bad a e)
 | .ok c=>if n=0 then (!isT 3 [41] c,.ok c) else if isT 3 [44] c=true then (true,.ok (c.drop 1)) else (false,.ok c)
theorem moreS_ok (n:Nat) (c:List Tok):moreS n (.ok c)=if n=0 then (!isT 3 [41] c,.ok c) else if isT 3 [44] c=true then (true,.ok (c.drop 1)) else (false,.ok c):=rfl
def failS (a e:Int):LS->LS
 | .bad a' e'=>.bad a' e'
 | .ok _=>.bad a e
def meas:LS->Nat
 | .bad _ _=>0
 | .ok c=>c.length+1
def Good:LS->Prop
 | .bad _ e=>e≠0
 | .ok c=>Ended c
theorem want_meas (k:Int) (x:List UInt8) (s:LS):meas (wantS k x s).2<=meas s:=by
 cases s with
 | bad a e=>exact Nat.le_refl _
 | ok c =>
   show meas (wantT k x c).2<=_
   unfold wantT
   split
   ·simp [meas]
   ·simp [meas]
section
variable {α : Type}
def gloop (step:LS->α × LS):Nat->LS->List α->LS × List α
 | 0,s,ys=>(s,ys)
 | f+1,s,ys=>if (moreS ys.length s).1=true then gloop step f (step (moreS ys.length s).2).2 (ys++[(step (moreS ys.length s).2).1]) else (s,ys)
theorem gloop_end (step:LS->α × LS) (f:Nat) {s:LS} {ys:List α} (h:(moreS ys.length s).1=false):gloop step f s ys=(s,ys):=by
 cases f with
 | zero=>rfl
 | succ f=>unfold gloop;rw[if_neg (by rw[h];decide)]
theorem gloop_go (step:LS->α × LS) (f:Nat) {s:LS} {ys:List α} (h:(moreS ys.length s).1=true):gloop step (f+1) s ys=gloop step f (step (moreS ys.length s).2).2 (ys++[(step (moreS ys.length s).2).1]):=by
 rw[gloop,if_pos h]
def listS (step:LS->α × LS) (s:LS):List α × LS :=
 ((gloop step (meas (wantS 3 [40] s).2+1) (wantS 3 [40] s).2 []).2,(wantS 3 [41] (gloop step (meas (wantS 3 [40] s).2+1) (wantS 3 [40] s).2 []).1).2)
end
abbrev NmP:=List UInt8 × Int
def nameS (s:LS):NmP × LS:=(((wantS 1 [] s).1.x,(wantS 1 [] s).1.p),(wantS 1 [] s).2)
def termS:LS->(Trm × Int) × LS
 | .bad a e=>((⟨[],0,0,[]⟩,0),.bad a e)
 | .ok c=>if (headT c).k=2 then ((⟨[],(headT c).vk,(headT c).vn,(headT c).vt⟩,(headT c).p),(wantT 2 [] c).2) else ((⟨(wantT 1 [] c).1.x,0,0,[]⟩,(headT c).p),(wantT 1 [] c).2)
def atomS (s:LS):AtP × LS:=(((nameS s).1,(listS termS (nameS s).2).1),(listS termS (nameS s).2).2)
def overOf (l:List AtP):List Int:=l.filterMap fun a=>a.2[5]?.map (·.2)
def limS (l:List AtP) (s:LS):LS:=match l[6]? with
 | some a=>failS a.1.2 90 s
 | none=>s
def overS (l:List AtP) (s:LS):LS:=match (overOf l)[0]? with
 | some p=>failS p 91 s
 | none=>s
def dupS (hs:List NmP):Nat->Nat->LS->LS
 | 0,_,s=>s
 | m+1,k,s=>dupS hs m (k+1) (match hs[k]? with
   | some h=>if idxI (hs.map (·.1)) h.1<k then failS h.2 92 s else s
   | none=>s)
def lackS (V:List (List UInt8)) (hs:List NmP):Nat->Nat->LS->LS
 | 0,_,s=>s
 | m+1,k,s=>match s with
   | .bad a e=>.bad a e
   | .ok c=>lackS V hs m (k+1) (match hs[k]? with
     | some h=>if h.1∈V then .ok c else .bad h.2 93
     | none=>.ok c)
def atomsS (s:LS):LS × List AtP:=gloop atomS (meas (atomS s).2) (atomS s).2 [(atomS s).1]
def endS (n:NmP) (hs:List NmP) (l:List AtP) (s:LS):LS :=
 lackS (qVars (qryOf n hs l).atoms) hs hs.length 0 (dupS hs hs.length 0 (overS l (limS l s)))
def outS (s:LS) (q:Qry):PR Qry:=match s with
 | .bad a e=>.bad a e
 | .ok _=>.ok q []
structure Ld (w:World) (b:Nat) (ts:List Tok) (i:Nat) (a e:Int) (vt:Value):Prop where
 blk:Blk w b 101 #[vt,.int .i64 i,.int .i64 a,.int .i64 e]
 row:w.ownsRow 0 105 6 vt ts.length (tcells ts)
 len:ts.length<=100000
 il:i<=100001
theorem Ld.keep {w w':World} {b:Nat} {ts:List Tok} {i:Nat} {a e:Int} {vt:Value} (h:Ld w b ts i a e vt) (hb:Below w.heap.size w w'):Ld w' b ts i a e vt :=
 have hm:Mod (fun _=>False) w w':=Mod.ofBelow hb
 ⟨h.blk.mod hm (fun f=>f),hm.ownsRow h.row (fun _ _ f=>f),h.len,h.il⟩
theorem Ld.at {w:World} {b:Nat} {ts:List Tok} {i:Nat} {a e:Int} {vt:Value} (h:Ld w b ts i a e vt) {j:Nat} {t:Tok} (ht:ts[j]? = some t):∃ g cap,vt=.slice (some ⟨g,0,none⟩) ts.length cap/\ts.length<=cap/\cap<=maxLen/\g<w.heap.size /\
 w.cell? ⟨g,j * 6,none⟩=some (.int .i64 t.k)/\w.cell? ⟨g,j * 6+1,none⟩=some (.string ⟨t.x.toArray⟩)/\w.cell? ⟨g,j * 6+2,none⟩=some (.int .i64 t.vk)/\w.cell? ⟨g,j * 6+3,none⟩=some (.int .i64 t.vn)/\w.cell? ⟨g,j * 6+4,none⟩=some (.string ⟨t.vt.toArray⟩)/\w.cell? ⟨g,j * 6+5,none⟩=some (.int .i64 t.p):=by
 have hs:=h.row
 have hl:j<ts.length:=(List.getElem?_eq_some_iff.1 ht).1
 have hln:=tcells_len ts
 rcases hs.2 with ⟨_,h0⟩ | ⟨g,cap,cur,rfl,_,hg,hnc,hcm,_⟩
 ·omega
 ·obtain⟨h0,h1,h2,h3,h4,h5⟩:=tcells_at ts j t ht
  exact⟨g,cap,rfl,hnc,hcm,(Array.getElem?_eq_some_iff.1 hg).1,(hs.cellAt _ (by omega)).trans h0,(hs.cellAt _ (by omega)).trans h1,(hs.cellAt _ (by omega)).trans h2,(hs.cellAt _ (by omega)).trans h3,(hs.cellAt _ (by omega)).trans h4,(hs.cellAt _ (by omega)).trans h5⟩
def Ln (w:World) (b:Nat) (s:LS) (vt:Value):Prop:=∃ ts i a e,Ld w b ts i a e vt/\match s with
 | .bad a' e'=>a=a'/\e=e'
 | .ok c=>e=0/\ts.drop i=c
section
variable {w w' : World} {b : Nat} {s : LS} {vt : Value}
theorem Ln.keep (h:Ln w b s vt) (hb:Below w.heap.size w w'):Ln w' b s vt:=by
 obtain⟨ts,i,a,e,h1,h2⟩:=h
 exact⟨ts,i,a,e,h1.keep hb,h2⟩
theorem Ln.mt {B:Nat} {Ts:List TypeId} (h:Ln w b s vt) (hm:MT B Ts w w') (h1:101 ∉ Ts) (h2:105 ∉ Ts):Ln w' b s vt:=by
 obtain⟨ts,i,a,e,h3,h4⟩:=h
 exact⟨ts,i,a,e,⟨h3.blk.mt hm h1,hm.ownsRow h3.row h2,h3.len,h3.il⟩,h4⟩
theorem Ln.lt (h:Ln w b s vt):b<w.heap.size:=by
 obtain⟨ts,i,a,e,h3,_⟩:=h
 exact h3.blk.lt
end
def IntsO (B:Nat) (w:World) (v:Value) (l:List Int):Prop:=w.ownsRow B 3 1 v l.length (l.map fun p=>.int .i64 p)
def Apart (v1 v2:Value):Prop:=∀ q,v1.ownBlock=some q->∀ q',v2.ownBlock=some q'->q≠q'
theorem Apart.symm {v1 v2:Value} (h:Apart v1 v2):Apart v2 v1:=fun q hq q' hq' e=>h q' hq' q hq e.symm
theorem Apart.nil (v:Value):Apart (.slice none 0 0) v:=fun q hq=>by simp [Value.ownBlock] at hq
theorem Apart.grow {v1 v2:Value} {g n cap H:Nat} (h:Apart v1 v2) (hat:v1.ownBlock=some g∨g=H) (hlt:∀ k,v2.ownBlock=some k->k<H):Apart (.slice (some ⟨g,0,none⟩) n cap) v2:=by
 intro q hq q' hq'
 simp [Value.ownBlock] at hq
 subst hq
 rcases hat with hat | hat
 ·exact h _ hat q' hq'
 ·have:=hlt q' hq'
  omega
structure P3 (B:Nat) (w:World) (v1 v2 v3:Value) (l1 l2 l3:List Int):Prop where
 o1:IntsO B w v1 l1
 o2:IntsO B w v2 l2
 o3:IntsO B w v3 l3
 a12:Apart v1 v2
 a13:Apart v1 v3
 a23:Apart v2 v3
section
variable {B : Nat} {w w' : World} {v1 v2 v3 : Value} {l1 l2 l3 : List Int}
theorem P3.start (B:Nat) (w:World):P3 B w (.slice none 0 0) (.slice none 0 0) (.slice none 0 0) [] [] [] :=
 ⟨World.ownsRow_nil _ _ _ _,World.ownsRow_nil _ _ _ _,World.ownsRow_nil _ _ _ _,Apart.nil _,Apart.nil _,Apart.nil _⟩
theorem P3.mt {B':Nat} {Ts:List TypeId} (h:P3 B w v1 v2 v3 l1 l2 l3) (hm:MT B' Ts w w') (ht:3 ∉ Ts):P3 B w' v1 v2 v3 l1 l2 l3 :=
 ⟨hm.ownsRow h.o1 ht,hm.ownsRow h.o2 ht,hm.ownsRow h.o3 ht,h.a12,h.a13,h.a23⟩
theorem P3.keep (h:P3 B w v1 v2 v3 l1 l2 l3) (hb:Below w.heap.size w w'):P3 B w' v1 v2 v3 l1 l2 l3:=h.mt (MT.ofBelow (B:=0) (Ts:=[]) hb) (by simp)
theorem P3.grow {g cap:Nat} {p:Int} (h:P3 B w v1 v2 v3 l1 l2 l3) (hg:w.grownBy w' v1.ownBlock)
 (hown:w'.ownsRow B 3 1 (.slice (some ⟨g,0,none⟩) (l1.length+1) cap) (l1.length+1) ((l1.map fun p=>.int .i64 p)++[.int .i64 p])) (hat:v1.ownBlock=some g∨g=w.heap.size) :
 P3 B w' (.slice (some ⟨g,0,none⟩) (l1.length+1) cap) v2 v3 (l1++[p]) l2 l3:=by
 refine⟨?_,?_,?_,h.a12.grow hat fun k hk=>(h.o2.lt k hk).2,h.a13.grow hat fun k hk=>(h.o3.lt k hk).2,h.a23⟩
 ·unfold IntsO
  simpa using hown
 ·refine World.ownsRow.kept h.o2 hg ?_
  cases hv:v2.ownBlock with
  | none=>exact .inl rfl
  | some q=>exact .inr fun e=>h.a12 q e.symm q hv rfl
 ·refine World.ownsRow.kept h.o3 hg ?_
  cases hv:v3.ownBlock with
  | none=>exact .inl rfl
  | some q=>exact .inr fun e=>h.a13 q e.symm q hv rfl
theorem IntsO.get (h:IntsO B w v1 l1) {i:Nat} {p:Int} (hi:l1[i]? = some p):∃ g cap,v1=.slice (some ⟨g,0,none⟩) l1.length cap/\l1.length<=cap/\cap<=maxLen/\g<w.heap.size/\w.cell? ⟨g,i,none⟩=some (.int .i64 p):=by
 have hl:=(List.getElem?_eq_some_iff.1 hi).1
 rcases h.2 with ⟨_,h0⟩ | ⟨g,cap,cur,rfl,_,hg,hnc,hcm,_⟩
 ·omega
 ·have hc:=World.ownsRow.cellAt (show w.ownsRow B 3 1 (.slice (some ⟨g,0,none⟩) l1.length cap) l1.length (l1.map fun p=>.int .i64 p) from h) i (by omega)
  exact⟨g,cap,rfl,hnc,hcm,(Array.getElem?_eq_some_iff.1 hg).1,hc.trans (by simp [hi])⟩
end
structure PC (w0 w:World) (qb:Nat) (nm:List UInt8) (qh qa:Value) (hn:List (List UInt8)) (al:List Atm):Prop where
 q:Blk w qb 29 #[.string ⟨nm.toArray⟩,qh,qa]
 r:Blk w w0.heap.size 29 #[.string ⟨#[]⟩,.slice none 0 0,.slice none 0 0]
 head:OwnS w0.heap.size w qh hn
 atoms:∃ rows:List (List Value),w.ownsRow w0.heap.size 67 2 qa al.length rows.flatten/\All2 (AtmO w0.heap.size w) rows al
 below:Below w0.heap.size w0 w
 ne:w0.heap.size<qb
section
variable {w0 w w' : World} {qb : Nat} {nm : List UInt8} {qh qa : Value} {hn : List (List UInt8)} {al : List Atm}
theorem PC.mt {Ts:List TypeId} (h:PC w0 w qb nm qh qa hn al) (hm:MT w0.heap.size Ts w w') (h1:29 ∉ Ts) (h2:9 ∉ Ts) (h3:67 ∉ Ts) (h4:71 ∉ Ts):PC w0 w' qb nm qh qa hn al:=by
 obtain⟨rows,h5,h6⟩:=h.atoms
 exact⟨h.q.mt hm h1,h.r.mt hm h1,hm.ownsRow h.head h2,⟨rows,hm.ownsRow h5 h3,h6.mono fun b a h=>h.mt hm h4⟩,h.below.trans (hm.below h.below.size),h.ne⟩
theorem PC.keep (h:PC w0 w qb nm qh qa hn al) (hb:Below w.heap.size w w'):PC w0 w' qb nm qh qa hn al:=h.mt (MT.ofBelow (Ts:=[]) hb) (by simp) (by simp) (by simp) (by simp)
end
end Go.Proofs.YtamjadghncnbcaaGreatDoor
