/- query.name, query.term and the closures that call them, walked. query.Parse's door, and a line that Open refuses. The read lists of query.Parse: atoms; what lies where. query.Parse's end: small facts, the door of a frame that returns. The document's line and its reading of a query, plainly; it tells what the program's reading tells. What the document's Parse keeps in memory. append of a whole row  -/
import Derived.Test.YtgopfpjinohncaaGreatDoorGaV
import Derived.Test.YtgopfpjinohncaaGreatDoorGbV
import Derived.Defers
import Derived.Recover
import Derived.Deep.RegionHeld3
import Derived.Deep.AppendLies
import Derived.OwnWalk
namespace Go.Proofs.YtgopfpjinohncaaGreatDoor
open Go.RowKit
set_option linter.unusedVariables false
theorem tx_nil (w:World):TX w (.slice none 0 0) []:=⟨by simp,none,0,rfl,.inl rfl⟩
def InB (w:World) (b r:Nat):Prop:=Blk w b 118 #[.pointer (some ⟨r,0,none⟩)]
def AtomsOwn (B:Nat) (w:World) (v:Value) (al:List Atm):Prop :=
 ∃ rows:List (List Value),w.ownsRow B 105 2 v al.length rows.flatten/\All2 (fun row (a:Atm)=>∃ tv,row=[.string ⟨a.rel.toArray⟩,tv]/\w.ownsRow B 113 4 tv a.ts.length (a.ts.flatMap Trm.cells)) rows al
theorem map_flat {α:Type} (f:α->List Value) (l:List α):(l.map f).flatten=l.flatMap f:=by
 induction l with
 | nil=>rfl
 | cons a l ih=>simp [ih]
theorem all2_and {α β:Type} {R S:β->α->Prop}:∀ {bs:List β} {al:List α},All2 R bs al->(∀ b a,a∈al->R b a->S b a)->All2 S bs al
 | [],[],_,_=>trivial
 | _::_,_::_,h,hs=>⟨hs _ _ List.mem_cons_self h.1,all2_and h.2 fun b a ha=>hs b a (List.mem_cons_of_mem _ ha)⟩
 | [],_::_,h,_=>h.elim
 | _::_,[],h,_=>h.elim
theorem all2_mem {α β:Type} {R:β->α->Prop}:∀ {bs:List β} {al:List α},All2 R bs al->∀ b∈bs,∃ a,a∈al/\R b a
 | [],[],_,b,hb=>by simp at hb
 | b0::_,a0::_,h,b,hb=>by
   rcases List.mem_cons.1 hb with rfl | hb
   ·exact⟨a0,List.mem_cons_self,h.1⟩
   ·obtain⟨a,ha,hr⟩:=all2_mem h.2 b hb
    exact⟨a,List.mem_cons_of_mem _ ha,hr⟩
 | [],_::_,h,_,_=>h.elim
 | _::_,[],h,_,_=>h.elim
def AtmO (B:Nat) (w:World) (row:List Value) (a:Atm):Prop:=∃ tv,row=[.string ⟨a.rel.toArray⟩,tv]/\w.ownsRow B 113 4 tv a.ts.length (a.ts.flatMap Trm.cells)
theorem AtmO.mt {B B':Nat} {w w':World} {row:List Value} {a:Atm} {Ts:List TypeId} (h:AtmO B w row a) (hm:MT B' Ts w w') (ht:113 ∉ Ts):AtmO B w' row a:=by
 obtain⟨tv,rfl,h2⟩:=h
 exact⟨tv,rfl,hm.ownsRow h2 ht⟩
theorem Tryz.infoTrm:(Tryz.prog.info? 113).map (fun i=>(i.zero,i.size,i.bytes))=some (some (.agg #[.string ⟨#[]⟩,.int .i64 0,.int .i64 0,.string ⟨#[]⟩]),4,48):=by kernel_rfl
theorem Tryz.infoAtm:(Tryz.prog.info? 105).map (fun i=>(i.zero,i.size,i.bytes))=some (some (.agg #[.string ⟨#[]⟩,.slice none 0 0]),2,40):=by kernel_rfl
inductive LS where
 | bad (a e:Int)
 | ok (c:List Tok)
def headT:List Tok->Tok
 | []=>tok0
 | t::_=>t
def wantT (k:Int) (x:List UInt8) (c:List Tok):Tok × LS:=if (headT c).k=k/\(x=[]∨(headT c).x=x) then (headT c,.ok (c.drop 1)) else (tok0,.bad (headT c).p 80)
def wantS (k:Int) (x:List UInt8):LS->Tok × LS
 | .bad a e=>(tok0,.bad a e)
 | .ok c=>wantT k x c
def isT (k:Int) (x:List UInt8) (c:List Tok):Bool:=decide ((headT c).k=k/\(headT c).x=x)
def isS (k:Int) (x:List UInt8):LS->Bool
 | .bad _ _=>false
 | .ok c=>isT k x c
def moreS (n:Nat):LS->Bool × LS
 | .bad a e=>(false,.bad a e)
 | .ok c=>if n=0 then (!isT 3 [41] c,.ok c) else if isT 3 [44] c=true then (true,.ok (c.drop 1)) else (false,.ok c)
theorem moreS_ok (n:Nat) (c:List Tok):moreS n (.ok c)=if n=0 then (!isT 3 [41] c,.ok c) else if isT 3 [44] c=true then (true,.ok (c.drop 1)) else (false,.ok c):=rfl
def failS (a e:Int):LS->LS
 | .bad a' e'=>.bad a' e'
 | .ok _=>.bad a e
def meas:LS->Nat
 | .bad _ _=>0
 | .ok c=>c.length+1
section
variable {α : Type}
def gloop (step:LS->α × LS):Nat->LS->List α->LS × List α
 | 0,s,ys=>(s,ys)
 | f+1,s,ys=>if (moreS ys.length s).1=true then gloop step f (step (moreS ys.length s).2).2 (ys++[(step (moreS ys.length s).2).1]) else (s,ys)
theorem gloop_end (step:LS->α × LS) (f:Nat) {s:LS} {ys:List α} (h:(moreS ys.length s).1=false):gloop step f s ys=(s,ys):=by
 cases f with
 | zero=>rfl
 | succ f=>unfold gloop;rw[if_neg (by rw[h];decide)]
theorem gloop_go (step:LS->α × LS) (f:Nat) {s:LS} {ys:List α} (h:(moreS ys.length s).1=true):gloop step (f+1) s ys=gloop step f (step (moreS ys.length s).2).2 (ys++[(step (moreS ys.length s).2).1]):=by
 rw[gloop,if_pos h]
theorem gloop_bad (step:LS->α × LS) (f:Nat) (a e:Int) (ys:List α):gloop step f (.bad a e) ys=(.bad a e,ys):=gloop_end step f rfl
def StepOk (P:List Tok->PR α) (step:LS->α × LS):Prop:=∀ c,Ended c->match P c with
 | .bad a e=>(step (.ok c)).2=.bad a e
 | .ok x c'=>step (.ok c)=(x,.ok c')/\Ended c'
theorem isT_isM (m:List UInt8) (c:List Tok):isT 3 m c=isM m c:=by
 cases c with
 | nil=>simp [isT,isM,headT,tok0]
 | cons t r=>rfl
theorem isM_ended {m:List UInt8} {c:List Tok} (h:isM m c=true) (he:Ended c):Ended (c.drop 1):=by
 obtain⟨t,r,rfl⟩:=he.some
 have hh:t.k=3/\t.x=m:=by simpa [isM] using h
 exact Ended.cons he (by rw[hh.1];decide)
theorem gloop_rest {P:List Tok->PR α} {step:LS->α × LS} (hs:StepOk P step) (hl:Less P):∀ (f:Nat) (c:List Tok) (ys:List α),ys≠[]->Ended c->c.length+1<=f->match restP P ys c with
 | .bad a e=>(gloop step f (.ok c) ys).1=.bad a e
 | .ok xs c'=>gloop step f (.ok c) ys=(.ok c',xs)/\Ended c':=by
 intro f
 induction f with
 | zero=>intro c ys _ _ h;omega
 | succ f ih =>
   intro c ys hy he hf
   have hn:ys.length≠0:=fun e=>hy (List.eq_nil_of_length_eq_zero e)
   cases him:isM [44] c with
   | false =>
     have hm:moreS ys.length (.ok c)=(false,.ok c):=by
      rw[moreS_ok]
      rw[if_neg hn,isT_isM,him]
      rfl
     rw[restP_end ys him]
     refine⟨gloop_end step _ ?_,he⟩
     rw[hm]
   | true =>
     have hm:moreS ys.length (.ok c)=(true,.ok (c.drop 1)):=by
      rw[moreS_ok]
      rw[if_neg hn,isT_isM,him]
      rfl
     have he1:=isM_ended him he
     have hst:=hs _ he1
     have hg:=gloop_go step f (s:=.ok c) (ys:=ys) (by rw[hm])
     rw[hm] at hg
     simp only at hg
     rw[hg]
     cases hp:P (c.drop 1) with
     | bad a e =>
       rw[hp] at hst
       simp only at hst
       rw[restP_bad ys him hp,hst,gloop_bad]
     | ok x c1 =>
       rw[hp] at hst
       obtain⟨h1,h2⟩:=hst
       obtain⟨h3,h4⟩:=restP_ok hl ys him hp
       rw[h3,h1]
       exact ih c1 (ys++[x]) (by simp) h2 (by omega)
theorem gloop_list {P:List Tok->PR α} {step:LS->α × LS} (hs:StepOk P step) (hl:Less P) (f:Nat) (c:List Tok) (he:Ended c) (hf:c.length+2<=f):match (if isM [41] c=true then (.ok [] c:PR (List α)) else someP P c) with
 | .bad a e=>(gloop step f (.ok c) []).1=.bad a e
 | .ok xs c'=>gloop step f (.ok c) []=(.ok c',xs)/\Ended c':=by
 cases him:isM [41] c with
 | true =>
   rw[if_pos rfl]
   refine⟨gloop_end step _ ?_,he⟩
   show (!isT 3 [41] c)=false
   rw[isT_isM,him]
   rfl
 | false =>
   rw[if_neg (by decide)]
   obtain⟨f,rfl⟩:∃ g,f=g+1:=⟨f - 1,by omega⟩
   have hm:moreS ([]:List α).length (.ok c)=(true,.ok c):=by
    show (!isT 3 [41] c,LS.ok c)=_
    rw[isT_isM,him]
    rfl
   have hg:=gloop_go step f (s:=.ok c) (ys:=[]) (by rw[hm])
   rw[hm] at hg
   simp only[List.nil_append] at hg
   rw[hg]
   have hst:=hs _ he
   cases hp:P c with
   | bad a e =>
     rw[hp] at hst
     simp only at hst
     rw[some_bad hp,hst,gloop_bad]
   | ok x c1 =>
     rw[hp] at hst
     obtain⟨h1,h2⟩:=hst
     have h3:=hl _ _ _ hp
     rw[some_ok hp,h1]
     exact gloop_rest hs hl f c1 [x] (by simp) h2 (by omega)
def listS (step:LS->α × LS) (s:LS):List α × LS :=
 ((gloop step (meas (wantS 3 [40] s).2+1) (wantS 3 [40] s).2 []).2,(wantS 3 [41] (gloop step (meas (wantS 3 [40] s).2+1) (wantS 3 [40] s).2 []).1).2)
end
theorem want_tk0 {k:Int} {c:List Tok} (h:Ended c) (hk:k≠0):match tk k [] c with
 | .bad a e=>wantS k [] (.ok c)=(tok0,.bad a e)
 | .ok t r=>wantS k [] (.ok c)=(t,.ok r)/\Ended r:=by
 obtain⟨t,r,rfl⟩:=h.some
 by_cases hc:t.k=k
 ·have h1:tk k [] (t::r)=.ok t r:=by simp [tk,hc,hk]
  rw[h1]
  exact⟨by simp [wantS,wantT,headT,hc],h.cons (by omega)⟩
 ·have h1:tk k [] (t::r)=.bad t.p 80:=by simp [tk,hc]
  rw[h1]
  simp [wantS,wantT,headT,hc]
theorem want_tk1 {k:Int} {m:List UInt8} {c:List Tok} (h:Ended c) (hk:k≠0) (hm:m≠[]):match tk k [m] c with
 | .bad a e=>wantS k m (.ok c)=(tok0,.bad a e)
 | .ok t r=>wantS k m (.ok c)=(t,.ok r)/\Ended r:=by
 obtain⟨t,r,rfl⟩:=h.some
 by_cases hc:t.k=k/\t.x=m
 ·have h1:tk k [m] (t::r)=.ok t r:=by simp [tk,hc.1,hc.2,hk]
  rw[h1]
  refine⟨?_,h.cons (by omega)⟩
  show wantT k m (t::r)=_
  unfold wantT
  rw[if_pos ⟨hc.1,.inr hc.2⟩]
  rfl
 ·have h1:tk k [m] (t::r)=.bad t.p 80:=by
   unfold tk
   refine if_neg ?_
   rintro ⟨h2,h3⟩
   rcases h3 with h3 | h3
   ·cases h3
   ·exact hc ⟨h2,by simpa using h3⟩
  rw[h1]
  show wantT k m (t::r)=_
  unfold wantT
  rw[if_neg]
  ·rfl
  ·rintro ⟨h2,h3⟩
   rcases h3 with h3 | h3
   ·exact hm h3
   ·exact hc ⟨h2,h3⟩
theorem listS_ok {α:Type} {P:List Tok->PR α} {step:LS->α × LS} (hs:StepOk P step) (hl:Less P):StepOk (listP P) (listS step):=by
 intro c he
 have h1:=want_tk1 (k:=3) (m:=[40]) he (by decide) (by decide)
 unfold listP listS
 cases ho:tk 3 [[40]] c with
 | bad a e =>
   rw[ho] at h1
   simp only at h1
   simp only[h1,gloop_bad]
   rfl
 | ok t c1 =>
   rw[ho] at h1
   obtain⟨h1,he1⟩:=h1
   simp only[h1]
   have h2:=gloop_list hs hl (meas (.ok c1)+1) c1 he1 (by simp [meas])
   cases hq:(if isM [41] c1=true then (.ok [] c1:PR (List α)) else someP P c1) with
   | bad a e =>
     rw[hq] at h2
     simp only at h2 ⊢
     rw[h2]
     rfl
   | ok xs c2 =>
     rw[hq] at h2
     obtain⟨h2,he2⟩:=h2
     simp only[h2]
     have h3:=want_tk1 (k:=3) (m:=[41]) he2 (by decide) (by decide)
     cases h4:tk 3 [[41]] c2 with
     | bad a e =>
       rw[h4] at h3
       simp only at h3 ⊢
       rw[h3]
     | ok u c3 =>
       rw[h4] at h3
       obtain⟨h3,he3⟩:=h3
       simp only[h3]
       exact⟨trivial,he3⟩
abbrev NmP:=List UInt8 × Int
def nameS (s:LS):NmP × LS:=(((wantS 1 [] s).1.x,(wantS 1 [] s).1.p),(wantS 1 [] s).2)
def termS:LS->(Trm × Int) × LS
 | .bad a e=>((⟨[],0,0,[]⟩,0),.bad a e)
 | .ok c=>if (headT c).k=2 then ((⟨[],(headT c).vk,(headT c).vn,(headT c).vt⟩,(headT c).p),(wantT 2 [] c).2) else ((⟨(wantT 1 [] c).1.x,0,0,[]⟩,(headT c).p),(wantT 1 [] c).2)
def atomS (s:LS):AtP × LS:=(((nameS s).1,(listS termS (nameS s).2).1),(listS termS (nameS s).2).2)
def overOf (l:List AtP):List Int:=l.filterMap fun a=>a.2[5]?.map (·.2)
def limS (l:List AtP) (s:LS):LS:=match l[6]? with
 | some a=>failS a.1.2 90 s
 | none=>s
def overS (l:List AtP) (s:LS):LS:=match (overOf l)[0]? with
 | some p=>failS p 91 s
 | none=>s
def dupS (hs:List NmP):Nat->Nat->LS->LS
 | 0,_,s=>s
 | m+1,k,s=>dupS hs m (k+1) (match hs[k]? with
   | some h=>if idxI (hs.map (·.1)) h.1<k then failS h.2 92 s else s
   | none=>s)
def lackS (V:List (List UInt8)) (hs:List NmP):Nat->Nat->LS->LS
 | 0,_,s=>s
 | m+1,k,s=>match s with
   | .bad a e=>.bad a e
   | .ok c=>lackS V hs m (k+1) (match hs[k]? with
     | some h=>if h.1∈V then .ok c else .bad h.2 93
     | none=>.ok c)
def atomsS (s:LS):LS × List AtP:=gloop atomS (meas (atomS s).2) (atomS s).2 [(atomS s).1]
def endS (n:NmP) (hs:List NmP) (l:List AtP) (s:LS):LS :=
 lackS (qVars (qryOf n hs l).atoms) hs hs.length 0 (dupS hs hs.length 0 (overS l (limS l s)))
def outS (s:LS) (q:Qry):PR Qry:=match s with
 | .bad a e=>.bad a e
 | .ok _=>.ok q []
def IntsO (B:Nat) (w:World) (v:Value) (l:List Int):Prop:=w.ownsRow B 3 1 v l.length (l.map fun p=>.int .i64 p)
section
variable {B : Nat} {w w' : World} {v1 v2 v3 : Value} {l1 l2 l3 : List Int}
theorem IntsO.get (h:IntsO B w v1 l1) {i:Nat} {p:Int} (hi:l1[i]? = some p):∃ g cap,v1=.slice (some ⟨g,0,none⟩) l1.length cap/\l1.length<=cap/\cap<=maxLen/\g<w.heap.size/\w.cell? ⟨g,i,none⟩=some (.int .i64 p):=by
 have hl:=(List.getElem?_eq_some_iff.1 hi).1
 rcases h.2 with ⟨_,h0⟩ | ⟨g,cap,cur,rfl,_,hg,hnc,hcm,_⟩
 ·omega
 ·have hc:=World.ownsRow.cellAt (show w.ownsRow B 3 1 (.slice (some ⟨g,0,none⟩) l1.length cap) l1.length (l1.map fun p=>.int .i64 p) from h) i (by omega)
  exact⟨g,cap,rfl,hnc,hcm,(Array.getElem?_eq_some_iff.1 hg).1,hc.trans (by simp [hi])⟩
end
theorem Tryz.infoInt:(Tryz.prog.info? 3).map (fun i=>(i.zero,i.size,i.bytes))=some (some (.int .i64 0),1,8):=by kernel_rfl
variable {P : Program}
theorem RowAt.flat {w:World} {b off n cap sz:Nat} {xs:List (List Value)} (hx:RowAt w (.slice (some ⟨b,off,none⟩) n cap) sz xs) (hl:∀ x∈xs,x.length=sz) :
 ∀ j v,xs.flatten[j]? = some v->w.cell? ((⟨b,off,none⟩:Addr).add j)=some v:=by
 have hfl:=flatten_len hl
 intro j v hj
 have hadd:(⟨b,off,none⟩:Addr).add j=⟨b,off+j,none⟩:=by unfold Addr.add;split<;>simp_all
 rw[hadd]
 have hjl:=(List.getElem?_eq_some_iff.1 hj).1
 rw[hfl] at hjl
 have hszp:0<sz:=by
  rcases Nat.eq_zero_or_pos sz with e | e
  ·subst e;simp at hjl
  ·exact e
 have hq:j / sz<xs.length:=Nat.div_lt_of_lt_mul (by rw[Nat.mul_comm];exact hjl)
 have hr:j % sz<sz:=Nat.mod_lt _ hszp
 obtain⟨x,hxj⟩:∃ x,xs[j / sz]? = some x:=⟨xs[j / sz]'(by omega),List.getElem?_eq_getElem (by omega)⟩
 have hxl:=hl x (List.mem_of_getElem? hxj)
 obtain⟨u,hu'⟩:∃ u,x[j % sz]? = some u:=⟨x[j % sz]'(by omega),List.getElem?_eq_getElem (by omega)⟩
 have hfa:=flatten_at hl hxj hu'
 have hjj:j / sz * sz+j % sz=j:=by rw[Nat.mul_comm];exact Nat.div_add_mod j sz
 rw[hjj,hj] at hfa
 obtain⟨b',off',cap3,hv3,_,_,_,hcell⟩:=hx.get hxj
 simp only[Value.slice.injEq,Option.some.injEq,Addr.mk.injEq,and_true] at hv3
 obtain⟨⟨rfl,rfl⟩,_,rfl⟩:=hv3
 have:=hcell (j % sz) u hu'
 rw[Nat.add_assoc,hjj] at this
 rw[this,hfa]
theorem run_append_zero {w:World} (base:Nat) (t ty e:TypeId) (i:TypeInfo) (size:Nat) (ht:P.underlying t=some (.slice e)) (hi:P.info? e=some i)
 (v:Value) (n:Nat) (xs:List Value) (hown:w.ownsRow base e size v n xs) (ad:Option Addr) (c:Nat) :
 (Builtin.append_ #[t,t] ty #[v,.slice ad 0 c]).run P w=.ok v w:=by
 cases ad with
 | none =>
   rcases hown.2 with ⟨rfl,rfl⟩ | ⟨g,cap,cur,rfl,_,_,hnc,_⟩ <;>
    simp [Builtin.append_,run_underlying ht,sizeOf,typeInfo,Builtin.lenOf,Builtin.firstCells,storeCells, *]
 | some ad =>
   have hl:∀ (x:Addr),(loadCells x 0).run P w=.ok #[] w:=fun x=>by simpa using run_loadCells_list (P:=P) w x [] (by simp)
   rcases hown.2 with ⟨rfl,rfl⟩ | ⟨g,cap,cur,rfl,_,_,hnc,_⟩ <;>
    simp [Builtin.append_,run_underlying ht,sizeOf,typeInfo,Builtin.lenOf,Builtin.firstCells,storeCells, *]
theorem wp_append_row {w:World} {o:Oper} {a:Act} {K:Act->World->Prop} {Q:Exit->Act->World->Prop} (s x:Operand) (t:TypeId)
 (ho:o.op=.call { callee:=.builtin .append,args:=#[s,x],argTypes:=#[t,t] })
 (base:Nat) (e:TypeId) (i:TypeInfo) (z:Value) (size bytes:Nat) (ht:P.underlying t=some (.slice e)) (hi:P.info? e=some i) (hz:i.zero=some z)
 (hsize:i.size=size) (hby:i.bytes=bytes) (hzs:z.cells.size=size) (hsz:0<size)
 (v:Value) (n:Nat) (cur:List Value) (hs:a.eval s=v) (hown:w.ownsRow base e size v n cur)
 (xv:Value) (hx:a.eval x=xv) (xs:List (List Value)) (hrow:RowAt w xv size xs) (hl:∀ x∈xs,x.length=size) (h1:∀ x∈xs,∀ u∈x,u.oneCell'=true)
 (h63:n+xs.length<=maxLen) (hbytes:(n+xs.length) * bytes<=140737488355328) (hbase:base<=w.heap.size)
 (h:∀ v' w',w'.ownsRow base e size v' (n+xs.length) (cur++xs.flatten)->w.grownBy w' v.ownBlock->K (a.put o.dst v') w'):o.wp P a w K Q:=by
 by_cases h0:xs=[]
 ·subst h0
  obtain⟨ad,cap,rfl,_,_⟩:=hrow.form
  have hr:=run_append_zero (P:=P) base t o.type e i size ht hi v n cur hown ad cap
  unfold Oper.wp execOp
  simp only[ho,resolve,invoke,builtin,Sem.run_bind,Sem.run_pure,Result.andThen_ok,List.map_toArray,List.map_cons,List.map_nil,hs,hx,List.length_nil,hr]
  exact h v w (by simpa using hown) ⟨rfl,rfl,rfl,Nat.le_refl _,fun _ _ _=>rfl⟩
 ·obtain⟨x0,hx0⟩:∃ x0,xs[0]? = some x0:=⟨xs[0]'(by have:=List.length_pos_iff.2 h0;omega),List.getElem?_eq_getElem (by have:=List.length_pos_iff.2 h0;omega)⟩
  obtain⟨b,off,cap,rfl,_,_,_,_⟩:=hrow.get hx0
  refine wp_append_lies w s x t ho base e i z size bytes ht hi hz hsize hby hzs hsz v n cur hs hown ⟨b,off,none⟩ xs.length cap xs.flatten hx (flatten_len hl) (hrow.flat hl) (by
   intro u hu
   obtain⟨x,hxm,hvx⟩:=List.mem_flatten.1 hu
   exact h1 x hxm u hvx) (List.length_pos_iff.2 h0) h63 hbytes hbase _ rfl ?_
  intro g cap' w' h2 h3 _ _
  exact h _ w' h2 h3
theorem step_append_row {w:World} {ops:Array Oper} {o:Oper} {a:Act} {K:Act->World->Prop} {Q:Exit->Act->World->Prop} {E:Prop} (hgd:o.guard=none) (s x:Operand) (t:TypeId)
 (ho:o.op=.call { callee:=.builtin .append,args:=#[s,x],argTypes:=#[t,t] })
 (base:Nat) (e:TypeId) (i:TypeInfo) (z:Value) (size bytes:Nat) (ht:P.underlying t=some (.slice e)) (hi:P.info? e=some i) (hz:i.zero=some z)
 (hsize:i.size=size) (hby:i.bytes=bytes) (hzs:z.cells.size=size) (hsz:0<size)
 (v:Value) (n:Nat) (cur:List Value) (hs:a.eval s=v) (hown:w.ownsRow base e size v n cur)
 (xv:Value) (hx:a.eval x=xv) (xs:List (List Value)) (hrow:RowAt w xv size xs) (hl:∀ x∈xs,x.length=size) (h1:∀ x∈xs,∀ u∈x,u.oneCell'=true)
 (h63:n+xs.length<=maxLen) (hbytes:(n+xs.length) * bytes<=140737488355328) (hbase:base<=w.heap.size)
 (h:∀ v' w',w'.ownsRow base e size v' (n+xs.length) (cur++xs.flatten)->w.grownBy w' v.ownBlock->K (a.put o.dst v') w') :
 if Region.wanted o (yielded ops a.tmps)=true then Oper.wp P o a w K Q else E:=by
 have hw:Region.wanted o (yielded ops a.tmps)=true:=by simp [Region.wanted,hgd]
 rw[if_pos hw]
 exact wp_append_row s x t ho base e i z size bytes ht hi hz hsize hby hzs hsz v n cur hs hown xv hx xs hrow hl h1 h63 hbytes hbase h
theorem list_eq_step {a b:List (List UInt8)} (hl:a.length=b.length) (h:∀ k,k<a.length->a[k]? = b[k]?):a=b:=by
 apply List.ext_getElem?
 intro k
 rcases Nat.lt_or_ge k a.length with h1 | h1
 ·exact h k h1
 ·rw[List.getElem?_eq_none h1,List.getElem?_eq_none (by omega)]
set_option maxHeartbeats 4000000 in
set_option maxRecDepth 100000 in
theorem sameTexts_any (w:World) (va vb:Value) (a b:List (List UInt8)) (ha:StrsAt w va a) (hb:StrsAt w vb b) :
 Calls Tryz.prog 38 #[va,vb] w fun e w'=>e=.returned (.bool (decide (a=b)))/\Below w.heap.size w w':=by
 obtain⟨aa,ac,rfl,hac,ham⟩:=ha.form
 obtain⟨ba,bc,rfl,hbc,hbm⟩:=hb.form
 have hla:=ha.len
 have hlb:=hb.len
 unfold maxLen at ham hbm
 have HA:=Lib.hid ha
 have HB:=Lib.hid hb
 clear ha hb
 by_cases hl:a.length=b.length
 ·generalize hna:a.length=n at *
  generalize hnb:b.length=m at *
  subst hl
  have HL:=Lib.hid hna
  have HN:=Lib.hid hnb
  clear hna hnb
  go_enter Tryz.func38,Tryz.ntmps38
  go_wp2_with fail
  go_loopw [5] (fun i wr=>∃ k:Nat,k<=n/\i=.int .i64 k/\Hid (Below w.heap.size w wr)/\Hid (∀ j,j<k->a[j]? = b[j]?)) (fun i _=>n - (intOf i).toNat)
  case atStart=>exact⟨0,Nat.zero_le _,rfl,Lib.hid (Below.refl _ _),Lib.hid (by simp)⟩
  case round =>
   obtain⟨k,hk,rfl,BW,HP⟩:=hrel
   by_cases hlt:k<n
   ·obtain⟨x,hx⟩:∃ x,a[k]? = some x:=⟨a[k]'(by rw[HL.out];exact hlt),List.getElem?_eq_getElem (by rw[HL.out];exact hlt)⟩
    obtain⟨y,hy⟩:∃ y,b[k]? = some y:=⟨b[k]'(by rw[HN.out];exact hlt),List.getElem?_eq_getElem (by rw[HN.out];exact hlt)⟩
    obtain⟨b1,o1,c1,hv1,_,_,hbl1,k1⟩:=(HA.out.keep BW.out).get hx
    obtain⟨b2,o2,c2,hv2,_,_,hbl2,k2⟩:=(HB.out.keep BW.out).get hy
    rw[HL.out] at hv1
    rw[HN.out] at hv2
    simp only[Value.slice.injEq,true_and] at hv1 hv2
    obtain⟨rfl,rfl⟩:=hv1
    obtain⟨rfl,rfl⟩:=hv2
    have hd:decide ((k:Int)<0)=false:=by simp
    have hd2:decide ((n:Int)<=(k:Int))=false:=by simp;omega
    have HX:=Lib.hid hx
    have HY:=Lib.hid hy
    clear hx hy
    by_cases hq:x=y
    ·subst hq
     go_wp2_with fail
     go_quiet (fail)
     go_wp2_with fail
     go_roundw
     case rel =>
      refine⟨k+1,by omega,by go_num,Lib.hid (bdrewN BW.out _),Lib.hid fun j hj=>?_⟩
      rcases Nat.lt_or_ge j k with h | h
      ·exact HP.out j h
      ·obtain rfl:j=k:=by omega
       rw[HX.out,HY.out]
     case measure=>simp [intOf];omega
    ·have hq2:¬ ((⟨x.toArray⟩:ByteArray)=⟨y.toArray⟩):=fun e=>hq (bytes_eq.1 e)
     have hq3:(x == y)=false:=by simpa using hq
     have hne:a≠b:=fun e=>hq (by have:=HX.out;rw[e,HY.out] at this;exact (Option.some.inj this).symm)
     have HNE:=Lib.hid hne
     clear hq hne
     go_wp2_with fail
     go_quiet (fail)
     go_wp2_with fail
     go_ret
     exact⟨by rw[decide_eq_false HNE.out];rfl,bdrewN BW.out _⟩
   ·obtain rfl:k=n:=by omega
    have heq:a=b:=list_eq_step (by rw[HL.out,HN.out]) (fun j hj=>HP.out j (by rw[HL.out] at hj;exact hj))
    have HEQ:=Lib.hid heq
    clear heq
    go_wp2_with fail
    go_ret
    exact⟨by rw[decide_eq_true HEQ.out];rfl,BW.out⟩
 ·have hne:a≠b:=fun e=>hl (by rw[e])
  rw[decide_eq_false hne]
  have hq:((a.length:Int) == (b.length:Int))=false:=by rw[beq_eq_false_iff_ne];omega
  have hq2:((a.length:Int) != (b.length:Int))=true:=by simp [bne,hq]
  clear hne
  go_enter Tryz.func38,Tryz.ntmps38
  go_wp2_with fail
  go_ret
  exact⟨rfl,Below.refl _ _⟩
theorem trm_one (ts:List Trm):∀ x∈ts.map Trm.cells,∀ u∈x,u.oneCell'=true:=by
 intro x hx u hu
 simp at hx
 obtain⟨t,_,rfl⟩:=hx
 simp only[Trm.cells,List.mem_cons,List.not_mem_nil,or_false] at hu
 rcases hu with rfl | rfl | rfl | rfl<;>rfl
def q4 (n:NmP) (hs:List NmP) (al:List AtP) (X:Tok × LS):PR Qry:=outS (endS n hs al X.2) (qryOf n hs al)
def q3 (n:NmP) (hs:List NmP) (G:LS × List AtP):PR Qry:=q4 n hs G.2 (wantS 0 [] G.1)
def q2d (n:NmP) (hs:List NmP) (X:Tok × LS):PR Qry:=q3 n hs (atomsS X.2)
def q2c (n:NmP) (hs:List NmP) (X:Tok × LS):PR Qry:=q2d n hs (wantS 3 [58,45] X.2)
def q2b (n:NmP) (G:LS × List NmP):PR Qry:=q2c n G.2 (wantS 3 [41] G.1)
def q2a (n:NmP) (X:Tok × LS):PR Qry:=q2b n (gloop nameS (meas X.2+1) X.2 [])
def q1 (X:Tok × LS):PR Qry:=q2a (X.1.x,X.1.p) (wantS 3 [40] X.2)
theorem blkNewS (w:World) (p:Addr) (u:Value) (t:TypeId) (cs:Array Value):Blk ((w.setCell p u).alloc (.cells cs t)) w.heap.size t cs:=by
 have:=Blk.new (w.setCell p u) t cs
 simpa using this
def lo (xs:List (Trm × Int)):List Int:=(xs[5]?.map (·.2)).toList
end Go.Proofs.YtgopfpjinohncaaGreatDoor
