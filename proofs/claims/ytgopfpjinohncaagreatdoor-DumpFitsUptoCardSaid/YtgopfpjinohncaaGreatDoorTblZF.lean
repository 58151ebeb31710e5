/- Tables and lists of queries: -/
import Derived.Test.YtgopfpjinohncaaGreatDoorRwsZF
set_option maxRecDepth 100000
set_option linter.unusedVariables false
namespace Go.Proofs.YtgopfpjinohncaaGreatDoor
open Go.Proofs.Tryz
open Go.ChangeShapes Go.WideShapes Go.ChangeAt Go.RowKit Go.Deep Go.Joins
def vJ (w:World) (cells:List Value) (t:eC):Prop:=∃ v,cells=[.string ⟨t.rel.toArray⟩,v]/\cq w v t.rows
def du (w:World) (v:Value) (l:List eC):Prop:=∃ rows,aj w v 2 rows/\aH (vJ w) rows l
theorem vJ.keep {w w':World} {row:List Value} {a:eC} (h:vJ w row a) (hb:Below w.heap.size w w'):vJ w' row a:=by
 obtain⟨cv,rfl,h2⟩:=h
 exact⟨cv,rfl,h2.keep hb⟩
theorem du.keep {w w':World} {v:Value} {l:List eC} (h:du w v l) (hb:Below w.heap.size w w'):du w' v l:=by
 obtain⟨rows,h1,h2⟩:=h
 exact⟨rows,h1.keep hb,h2.mono fun b a hh=>hh.keep hb⟩
theorem du.form {w:World} {v:Value} {l:List eC} (h:du w v l):∃ (ad:Option Addr) (cap:Nat),v=.slice ad l.length cap/\l.length<=cap/\cap<=maxLen:=by
 obtain⟨rows,h1,h2⟩:=h
 obtain⟨ad,cap,hv,h3,h4⟩:=h1.form
 rw[h2.length] at hv h3
 exact⟨ad,cap,hv,h3,h4⟩
theorem du.get {w:World} {v:Value} {l:List eC} (h:du w v l) {i:Nat} {a:eC} (hi:l[i]? = some a):∃ (b off cap:Nat) (rv:Value),v=.slice (some ⟨b,off,none⟩) l.length cap/\l.length<=cap/\cap<=maxLen/\b<w.heap.size /\
 w.cell? ⟨b,off+i * 2,none⟩=some (.string ⟨a.rel.toArray⟩)/\w.cell? ⟨b,off+i * 2+1,none⟩=some rv/\cq w rv a.rows:=by
 obtain⟨rows,h1,h2⟩:=h
 obtain⟨row,hr,rv,rfl,h3⟩:=h2.get hi
 obtain⟨b,off,cap,hv,h5,h6,h7,h8⟩:=h1.get hr
 rw[h2.length] at hv h5
 exact⟨b,off,cap,rv,hv,h5,h6,h7,h8 0 _ rfl,h8 1 _ rfl,h3⟩
def yg (w:World) (cells:List Value) (q:cf):Prop:=∃ hv av,cells=[.string ⟨q.name.toArray⟩,hv,av]/\aI w hv q.head/\aK w av q.atoms
def bZ (w:World) (v:Value) (l:List cf):Prop:=∃ rows,aj w v 3 rows/\aH (yg w) rows l
theorem yg.keep {w w':World} {row:List Value} {a:cf} (h:yg w row a) (hb:Below w.heap.size w w'):yg w' row a:=by
 obtain⟨hv,av,rfl,h2,h3⟩:=h
 exact⟨hv,av,rfl,aj.keep h2 hb,h3.keep hb⟩
theorem bZ.keep {w w':World} {v:Value} {l:List cf} (h:bZ w v l) (hb:Below w.heap.size w w'):bZ w' v l:=by
 obtain⟨rows,h1,h2⟩:=h
 exact⟨rows,h1.keep hb,h2.mono fun b a hh=>hh.keep hb⟩
theorem bZ.form {w:World} {v:Value} {l:List cf} (h:bZ w v l):∃ (ad:Option Addr) (cap:Nat),v=.slice ad l.length cap/\l.length<=cap/\cap<=maxLen:=by
 obtain⟨rows,h1,h2⟩:=h
 obtain⟨ad,cap,hv,h3,h4⟩:=h1.form
 rw[h2.length] at hv h3
 exact⟨ad,cap,hv,h3,h4⟩
theorem bZ.get {w:World} {v:Value} {l:List cf} (h:bZ w v l) {i:Nat} {a:cf} (hi:l[i]? = some a):∃ (b off cap:Nat) (hv av:Value),v=.slice (some ⟨b,off,none⟩) l.length cap/\l.length<=cap/\cap<=maxLen/\b<w.heap.size /\
 w.cell? ⟨b,off+i * 3,none⟩=some (.string ⟨a.name.toArray⟩)/\w.cell? ⟨b,off+i * 3+1,none⟩=some hv/\w.cell? ⟨b,off+i * 3+2,none⟩=some av/\aI w hv a.head/\aK w av a.atoms:=by
 obtain⟨rows,h1,h2⟩:=h
 obtain⟨row,hr,hv',av',rfl,h3,h4⟩:=h2.get hi
 obtain⟨b,off,cap,hv,h5,h6,h7,h8⟩:=h1.get hr
 rw[h2.length] at hv h5
 exact⟨b,off,cap,hv',av',hv,h5,h6,h7,h8 0 _ rfl,h8 1 _ rfl,h8 2 _ rfl,h3,h4⟩
def gk (l:List (List Vl)):Prop:=∀ r∈l,∀ u∈r,bG u
structure iG (q:cf):Prop where
 name:q.name.length<=140737488351232
 heads:∀ s∈q.head,s.length<=140737488351232
 natoms:q.atoms.length<=3518437208780
 each:∀ a∈q.atoms,Bi a
def dy (l:List eC):Nat:=(l.map fun t=>t.rows.length).sum
section
variable {H : Type} {enc : TypeId × Value -> H} {w : World} {spare : Nat -> Bool} {held : Bool}
theorem r9 {α β:Type} {R:α->β->Prop} (f:β->Nat):∀ (rows:List α) (el:List (DataW H)),el.length=rows.length->(∀ (i:Nat) (r:α) (d:DataW H),rows[i]? = some r->el[i]? = some d->∃ a,R r a/\f a<=Rows.uptoBulk d)->∃ al,aH R rows al/\(al.map f).sum<=Rows.uptoBulkAll el
 | [],el,_,_=>⟨[],trivial,by simp⟩
 | r::rows,[],h,_=>by simp at h
 | r::rows,d::el,h,hx=>by
   obtain⟨a,h1,h2⟩:=hx 0 r d rfl rfl
   obtain⟨al,h3,h4⟩:=r9 f rows el (by simpa using h) (fun i r' d' q1 q2=>hx (i+1) r' d' (by simpa using q1) (by simpa using q2))
   refine⟨a::al,⟨h1,h3⟩,?_⟩
   simp only[List.map_cons,List.sum_cons,Rows.uptoBulkAll]
   omega
theorem uO {t:TypeId} {fuel:Nat} {v:Value} {x:DataW H × List MemPlace} (ht:prog.underlying t=some (.slice 59)) (h:DataW.trod enc prog w 0 spare held fuel t [v]=some x) (hs:Sz prog t x.1) :
 ∃ l:List (List Vl),cq w v l/\gk l/\l.length<=Rows.uptoBulk x.1:=by
 have hb:prog.bytesOf 59=24:=by kernel_rfl
 obtain⟨rows,hr,hd⟩:=cX (sz:=1) ht (by kernel_rfl) (by decide) h (fun el sp e=>by
  have:=(e ▸ hs).len ht
  rw[hb] at this
  omega)
 rcases hd with ⟨rfl,_⟩ | ⟨el,sp,e,hl,hi⟩
 ·exact⟨[],⟨[],hr,trivial⟩,by simp [gk],Fz⟩
 ·have hse:=fun d' (hd:d'∈el)=>(e ▸ hs:Sz prog t (.slice el sp)).elem ht hd
  obtain⟨al,hal⟩:=jY (fun (row:List Value) (a : {a:List Vl // ∀ u∈a,bG u})=>nK w row a.1) rows (fun row hrow=>by
   obtain⟨i,hi'⟩:=List.getElem?_of_mem hrow
   obtain⟨hl1,n',d',Pl,hdi,hti⟩:=hi i row hi'
   obtain⟨y,rfl⟩:∃ y,row=[y]:=by
    match row,hl1 with
    | [y],_=>exact⟨y,rfl⟩
   obtain⟨vs,h1,h2,h3⟩:=yf underlying59 hti (hse _ (FC hdi))
   exact⟨⟨vs,h3⟩,y,rfl,h1,h2⟩)
  have h2:aH (nK w) rows (al.map (·.1)):=by
   clear hi hse hl hr
   induction rows generalizing al with
   | nil=>cases al with
     | nil=>trivial
     | cons _ _=>exact hal.elim
   | cons p z ih=>cases al with
     | nil=>exact hal.elim
     | cons a al=>exact⟨hal.1,ih al hal.2⟩
  have hll:=h2.length
  have hbl:=kK el
  refine⟨al.map (·.1),⟨rows,hr,h2⟩,fun r hr=>?_,?_⟩
  ·obtain⟨q,_,rfl⟩:=List.mem_map.1 hr
   exact q.2
  ·rw[e]
   simp only[Rows.uptoBulk]
   omega
theorem zV {n:Nat} {row:List Value} {d:DataW H} {Pl:List MemPlace} (h:DataW.trod enc prog w 0 spare held n 47 row=some (d,Pl)) (hs:Sz prog 47 d) :
 ∃ a:eC,vJ w row a/\a.rel.length<=140737488351232/\gk a.rows/\a.rows.length<=Rows.uptoBulk d:=by
 obtain⟨y0,y1,m,hx,hl,h0,h1⟩:=trod_struct2 underlying47 h
 have hc:prog.cellsOf 47=2:=by kernel_rfl
 have c0:prog.cellsOf 9=1:=by kernel_rfl
 have c1:prog.cellsOf 45=1:=by kernel_rfl
 rw[hc] at hl
 simp only[Prod.mk.injEq] at hx
 rw[hx.1] at hs ⊢
 obtain⟨a,b,rfl⟩:=mw hl
 simp only[c0,c1,List.drop_zero,List.take_succ_cons,List.take_zero,List.drop_succ_cons] at h0 h1
 obtain⟨s,e0,f0,_⟩:=DataW.trod_string underlying9 h0
 simp only[List.cons.injEq,and_true] at e0
 subst e0
 obtain⟨l,h2,h3,h4⟩:=uO underlying45 h1 (hs.field underlying47 (j:=1) rfl rfl)
 refine⟨⟨s.data.toList,l⟩,⟨b,by simp,h2⟩,jf underlying47 rfl (by rw[f0];rfl) hs,h3,?_⟩
 simp only[Rows.uptoBulk,Rows.uptoBulkAll] at h4 ⊢
 omega
theorem Ao {base:Nat} {v:Value} {d:DataW H} {p:List MemPlace} (hv:Value.okWide prog w .any base 23 v) (h:DataW.Trod enc prog w 0 spare held 23 v d p) (hs:Sz prog 23 d) :
 ∃ l:List eC,du w v l/\(∀ t∈l,t.rel.length<=140737488351232/\gk t.rows)/\l.length+1<=Rows.uptoBulk d+1/\dy l<=Rows.uptoBulk d:=by
 have hb:prog.bytesOf 47=40:=by kernel_rfl
 obtain⟨a0,len,cap,rfl⟩:=okWide_slice underlying23 hv
 obtain⟨n,hn⟩:=h
 obtain⟨rows,hr,hd⟩:=cX (sz:=2) (x:=(d,p)) underlying23 (by kernel_rfl) (by decide) (by simpa [Value.cells] using hn) (fun el sp e=>by
  have e':d=.slice el sp:=e
  have hs':=hs
  rw[e'] at hs'
  have:=hs'.len underlying23
  rw[hb] at this
  omega)
 rcases hd with ⟨rfl,_⟩ | ⟨el,sp,e,hl,hi⟩
 ·exact⟨[],⟨[],hr,trivial⟩,by simp,by simp,by simp [dy]⟩
 ·have e':d=.slice el sp:=e
  have hs':=hs
  rw[e'] at hs' ⊢
  have hse:=fun d' (hd:d'∈el)=>hs'.elem underlying23 hd
  obtain⟨al,hal,hsum⟩:=r9 (R:=fun (row:List Value) (a : {a:eC // a.rel.length<=140737488351232/\gk a.rows})=>vJ w row a.1) (fun a=>a.1.rows.length) rows el hl (fun i row d' q1 q2=>by
   obtain⟨hl1,n',d2,Pl,hdi,hti⟩:=hi i row q1
   rw[q2] at hdi
   simp only[Option.some.injEq] at hdi
   subst hdi
   obtain⟨a,h1,h2,h3,h4⟩:=zV hti (hse _ (FC q2))
   exact⟨⟨a,h2,h3⟩,h1,h4⟩)
  have h2:aH (vJ w) rows (al.map (·.1)):=by
   clear hi hse hl hr hsum
   induction rows generalizing al with
   | nil=>cases al with
     | nil=>trivial
     | cons _ _=>exact hal.elim
   | cons p z ih=>cases al with
     | nil=>exact hal.elim
     | cons a al=>exact⟨hal.1,ih al hal.2⟩
  have hll:=h2.length
  have hbl:=kK el
  refine⟨al.map (·.1),⟨rows,hr,h2⟩,fun t ht=>?_,?_,?_⟩
  ·obtain⟨q,_,rfl⟩:=List.mem_map.1 ht
   exact q.2
  ·simp only[Rows.uptoBulk]
   omega
  ·simp only[Rows.uptoBulk,dy,List.map_map,Function.comp_def]
   omega
theorem Bh {base:Nat} {v:Value} {d:DataW H} {p:List MemPlace} (hv:Value.okWide prog w .any base 24 v) (h:DataW.Trod enc prog w 0 spare held 24 v d p) (hs:Sz prog 24 d) :
 ∃ l:List cf,bZ w v l/\(∀ q∈l,iG q)/\l.length<=Rows.uptoBulk d:=by
 have hb:prog.bytesOf 50=64:=by kernel_rfl
 obtain⟨a0,len,cap,rfl⟩:=okWide_slice underlying24 hv
 obtain⟨n,hn⟩:=h
 obtain⟨rows,hr,hd⟩:=cX (sz:=3) (x:=(d,p)) underlying24 (by kernel_rfl) (by decide) (by simpa [Value.cells] using hn) (fun el sp e=>by
  have e':d=.slice el sp:=e
  have hs':=hs
  rw[e'] at hs'
  have:=hs'.len underlying24
  rw[hb] at this
  omega)
 rcases hd with ⟨rfl,_⟩ | ⟨el,sp,e,hl,hi⟩
 ·exact⟨[],⟨[],hr,trivial⟩,by simp,Fz⟩
 ·have e':d=.slice el sp:=e
  have hs':=hs
  rw[e'] at hs' ⊢
  have hse:=fun d' (hd:d'∈el)=>hs'.elem underlying24 hd
  obtain⟨al,hal⟩:=jY (fun (row:List Value) (a : {a:cf // iG a})=>yg w row a.1) rows (fun row hrow=>by
   obtain⟨i,hi'⟩:=List.getElem?_of_mem hrow
   obtain⟨_,n',d',Pl,hdi,hti⟩:=hi i row hi'
   obtain⟨q,hv',av',h1,h2,h3,h4,h5,h6,h7⟩:=xk hti (hse _ (FC hdi))
   exact⟨⟨q,h5,h6,h4,h7⟩,hv',av',h1,h2,h3⟩)
  have h2:aH (yg w) rows (al.map (·.1)):=by
   clear hi hse hl hr
   induction rows generalizing al with
   | nil=>cases al with
     | nil=>trivial
     | cons _ _=>exact hal.elim
   | cons p z ih=>cases al with
     | nil=>exact hal.elim
     | cons a al=>exact⟨hal.1,ih al hal.2⟩
  have hll:=h2.length
  have hbl:=kK el
  refine⟨al.map (·.1),⟨rows,hr,h2⟩,fun t ht=>?_,?_⟩
  ·obtain⟨q,_,rfl⟩:=List.mem_map.1 ht
   exact q.2
  ·simp only[Rows.uptoBulk]
   omega
end
