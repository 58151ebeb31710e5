/- A list of relations as an argument, opened. A list of relations as an argument of bounded bulk, opened. Tables and lists of queries: what they are in memory, and as arguments, opened. -/
import Derived.Test.YtgopfpjinohncaaGreatDoorGlL
import Derived.Test.YtgopfpjinohncaaGreatDoorRxL
import Derived.Test.YtgopfpjinohncaaGreatDoorRwsZL
import Derived.Test.YtgopfpjinohncaaGreatDoorDm0ZL
namespace Go.Proofs.YtgopfpjinohncaaGreatDoor
open Go.ChangeShapes Go.WideShapes Go.ChangeAt Go.RowKit Go.Deep
set_option linter.unusedVariables false
section
variable {H : Type} {enc : TypeId × Value -> H} {w : World} {spare : Nat -> Bool} {held : Bool}
set_option maxRecDepth 100000 in
theorem rel_open {n:Nat} {row:List Value} {d:DataW H} {Pl:List MemPlace} (h:DataW.trod enc Tryz.prog w 0 spare held n 57 row=some (d,Pl)) (hs:Sz Tryz.prog 57 d) :
 ∃ a:Rln,RelC w row a/\a.name.length<=140737488351232/\∀ c∈a.cols,c.x.length<=140737488351232:=by
 obtain⟨y0,y1,m,hx,hl,h0,h1⟩:=trod_struct2 Tryz.underlying57 h
 have hc:Tryz.prog.cellsOf 57=2:=by kernel_rfl
 have c0:Tryz.prog.cellsOf 9=1:=by kernel_rfl
 have c1:Tryz.prog.cellsOf 55=1:=by kernel_rfl
 rw[hc] at hl
 simp only[Prod.mk.injEq] at hx
 rw[hx.1] at hs
 obtain⟨a,b,rfl⟩:=len2 hl
 simp only[c0,c1,List.drop_zero,List.take_succ_cons,List.take_zero,List.drop_succ_cons] at h0 h1
 obtain⟨s,e0,f0,_⟩:=DataW.trod_string Tryz.underlying9 h0
 simp only[List.cons.injEq,and_true] at e0
 subst e0
 obtain⟨l,h2,h3,h4⟩:=cols_open Tryz.underlying55 h1 (hs.field Tryz.underlying57 (j:=1) rfl rfl)
 have h5:=(hs.field Tryz.underlying57 (j:=0) (u:=9) (d:=.lit (.string s.data.toList)) rfl (by rw[f0];rfl)) s.data.toList.length (by simp [DataW.weights])
 exact⟨⟨s.data.toList,l⟩,⟨b,by simp,h2,h3⟩,by simpa [reachBytes] using h5,h4⟩
end
section
variable {H : Type} {enc : TypeId × Value -> H} {w : World} {spare : Nat -> Bool} {held : Bool}
set_option maxRecDepth 100000 in
theorem rels_argU {base:Nat} {v:Value} {d:DataW H} {p:List MemPlace} (hv:Value.okWide Tryz.prog w .any base 22 v) (h:DataW.Trod enc Tryz.prog w 0 spare held 22 v d p) (hs:Sz Tryz.prog 22 d) :
 ∃ l:List Rln,RelsAt w v l/\(∀ c∈l,c.name.length<=140737488351232/\∀ x∈c.cols,x.x.length<=140737488351232)/\l.length<=Rows.uptoBulk d:=by
 have hb:Tryz.prog.bytesOf 57=40:=by kernel_rfl
 obtain⟨a0,len,cap,rfl⟩:=okWide_slice Tryz.underlying22 hv
 obtain⟨n,hn⟩:=h
 obtain⟨rows,hr,hd⟩:=open_rows (sz:=2) (x:=(d,p)) Tryz.underlying22 (by kernel_rfl) (by decide) (by simpa [Value.cells] using hn) (fun el sp e=>by
  have e':d=.slice el sp:=e
  have hs':=hs
  rw[e'] at hs'
  have:=hs'.len Tryz.underlying22
  rw[hb] at this
  omega)
 rcases hd with ⟨rfl,_⟩ | ⟨el,sp,e,hl,hi⟩
 ·exact⟨[],⟨[],hr,trivial⟩,by simp,Nat.zero_le _⟩
 ·have e':d=.slice el sp:=e
  have hs':=hs
  rw[e'] at hs' ⊢
  have hse:=fun d' (hd:d'∈el)=>hs'.elem Tryz.underlying22 hd
  obtain⟨al,hal⟩:=all2_of (fun (row:List Value) (a : {a:Rln // a.name.length<=140737488351232/\∀ c∈a.cols,c.x.length<=140737488351232})=>RelC w row a.1) rows (fun row hrow=>by
   obtain⟨i,hi'⟩:=List.getElem?_of_mem hrow
   obtain⟨_,n',d',Pl,hdi,hti⟩:=hi i row hi'
   obtain⟨a,h1,h2⟩:=rel_open hti (hse _ (List.mem_of_getElem? hdi))
   exact⟨⟨a,h2⟩,h1⟩)
  have h2:All2 (RelC w) rows (al.map (·.1)):=by
   clear hi hse hl hr
   induction rows generalizing al with
   | nil=>cases al with
     | nil=>trivial
     | cons _ _=>exact hal.elim
   | cons p z ih=>cases al with
     | nil=>exact hal.elim
     | cons a al=>exact⟨hal.1,ih al hal.2⟩
  have hll:=h2.length
  have hbl:=bulk_len el
  refine⟨al.map (·.1),⟨rows,hr,h2⟩,fun c hc=>?_,by simp only[Rows.uptoBulk];omega⟩
  obtain⟨q,_,rfl⟩:=List.mem_map.1 hc
  exact q.2
end
end Go.Proofs.YtgopfpjinohncaaGreatDoor
namespace Go.Proofs.YtgopfpjinohncaaGreatDoor
open Go.ChangeShapes Go.WideShapes Go.ChangeAt Go.RowKit Go.Deep Go.Joins
set_option linter.unusedVariables false
def TblC (w:World) (cells:List Value) (t:Tbl):Prop:=∃ v,cells=[.string ⟨t.rel.toArray⟩,v]/\RowsAt w v t.rows
def TblsAt (w:World) (v:Value) (l:List Tbl):Prop:=∃ rows,RowAt w v 2 rows/\All2 (TblC w) rows l
theorem TblC.keep {w w':World} {row:List Value} {a:Tbl} (h:TblC w row a) (hb:Below w.heap.size w w'):TblC w' row a:=by
 obtain⟨cv,rfl,h2⟩:=h
 exact⟨cv,rfl,h2.keep hb⟩
theorem TblsAt.keep {w w':World} {v:Value} {l:List Tbl} (h:TblsAt w v l) (hb:Below w.heap.size w w'):TblsAt w' v l:=by
 obtain⟨rows,h1,h2⟩:=h
 exact⟨rows,h1.keep hb,h2.mono fun b a hh=>hh.keep hb⟩
theorem TblsAt.form {w:World} {v:Value} {l:List Tbl} (h:TblsAt w v l):∃ (ad:Option Addr) (cap:Nat),v=.slice ad l.length cap/\l.length<=cap/\cap<=maxLen:=by
 obtain⟨rows,h1,h2⟩:=h
 obtain⟨ad,cap,hv,h3,h4⟩:=h1.form
 rw[h2.length] at hv h3
 exact⟨ad,cap,hv,h3,h4⟩
theorem TblsAt.get {w:World} {v:Value} {l:List Tbl} (h:TblsAt w v l) {i:Nat} {a:Tbl} (hi:l[i]? = some a):∃ (b off cap:Nat) (rv:Value),v=.slice (some ⟨b,off,none⟩) l.length cap/\l.length<=cap/\cap<=maxLen/\b<w.heap.size /\
 w.cell? ⟨b,off+i * 2,none⟩=some (.string ⟨a.rel.toArray⟩)/\w.cell? ⟨b,off+i * 2+1,none⟩=some rv/\RowsAt w rv a.rows:=by
 obtain⟨rows,h1,h2⟩:=h
 obtain⟨row,hr,rv,rfl,h3⟩:=h2.get hi
 obtain⟨b,off,cap,hv,h5,h6,h7,h8⟩:=h1.get hr
 rw[h2.length] at hv h5
 exact⟨b,off,cap,rv,hv,h5,h6,h7,h8 0 _ rfl,h8 1 _ rfl,h3⟩
def QryC (w:World) (cells:List Value) (q:Qry):Prop:=∃ hv av,cells=[.string ⟨q.name.toArray⟩,hv,av]/\StrsAt w hv q.head/\AtomsAt w av q.atoms
def QrysAt (w:World) (v:Value) (l:List Qry):Prop:=∃ rows,RowAt w v 3 rows/\All2 (QryC w) rows l
theorem QryC.keep {w w':World} {row:List Value} {a:Qry} (h:QryC w row a) (hb:Below w.heap.size w w'):QryC w' row a:=by
 obtain⟨hv,av,rfl,h2,h3⟩:=h
 exact⟨hv,av,rfl,RowAt.keep h2 hb,h3.keep hb⟩
theorem QrysAt.keep {w w':World} {v:Value} {l:List Qry} (h:QrysAt w v l) (hb:Below w.heap.size w w'):QrysAt w' v l:=by
 obtain⟨rows,h1,h2⟩:=h
 exact⟨rows,h1.keep hb,h2.mono fun b a hh=>hh.keep hb⟩
theorem QrysAt.form {w:World} {v:Value} {l:List Qry} (h:QrysAt w v l):∃ (ad:Option Addr) (cap:Nat),v=.slice ad l.length cap/\l.length<=cap/\cap<=maxLen:=by
 obtain⟨rows,h1,h2⟩:=h
 obtain⟨ad,cap,hv,h3,h4⟩:=h1.form
 rw[h2.length] at hv h3
 exact⟨ad,cap,hv,h3,h4⟩
theorem QrysAt.get {w:World} {v:Value} {l:List Qry} (h:QrysAt w v l) {i:Nat} {a:Qry} (hi:l[i]? = some a):∃ (b off cap:Nat) (hv av:Value),v=.slice (some ⟨b,off,none⟩) l.length cap/\l.length<=cap/\cap<=maxLen/\b<w.heap.size /\
 w.cell? ⟨b,off+i * 3,none⟩=some (.string ⟨a.name.toArray⟩)/\w.cell? ⟨b,off+i * 3+1,none⟩=some hv/\w.cell? ⟨b,off+i * 3+2,none⟩=some av/\StrsAt w hv a.head/\AtomsAt w av a.atoms:=by
 obtain⟨rows,h1,h2⟩:=h
 obtain⟨row,hr,hv',av',rfl,h3,h4⟩:=h2.get hi
 obtain⟨b,off,cap,hv,h5,h6,h7,h8⟩:=h1.get hr
 rw[h2.length] at hv h5
 exact⟨b,off,cap,hv',av',hv,h5,h6,h7,h8 0 _ rfl,h8 1 _ rfl,h8 2 _ rfl,h3,h4⟩
def RowsB (l:List (List Vl)):Prop:=∀ r∈l,∀ u∈r,RangeV u
structure QryB (q:Qry):Prop where
 name:q.name.length<=140737488351232
 heads:∀ s∈q.head,s.length<=140737488351232
 natoms:q.atoms.length<=3518437208780
 each:∀ a∈q.atoms,AtmS a
def nRows (l:List Tbl):Nat:=(l.map fun t=>t.rows.length).sum
section
variable {H : Type} {enc : TypeId × Value -> H} {w : World} {spare : Nat -> Bool} {held : Bool}
theorem all2_sum {α β:Type} {R:α->β->Prop} (f:β->Nat):∀ (rows:List α) (el:List (DataW H)),el.length=rows.length->(∀ (i:Nat) (r:α) (d:DataW H),rows[i]? = some r->el[i]? = some d->∃ a,R r a/\f a<=Rows.uptoBulk d)->∃ al,All2 R rows al/\(al.map f).sum<=Rows.uptoBulkAll el
 | [],el,_,_=>⟨[],trivial,by simp⟩
 | r::rows,[],h,_=>by simp at h
 | r::rows,d::el,h,hx=>by
   obtain⟨a,h1,h2⟩:=hx 0 r d rfl rfl
   obtain⟨al,h3,h4⟩:=all2_sum f rows el (by simpa using h) (fun i r' d' q1 q2=>hx (i+1) r' d' (by simpa using q1) (by simpa using q2))
   refine⟨a::al,⟨h1,h3⟩,?_⟩
   simp only[List.map_cons,List.sum_cons,Rows.uptoBulkAll]
   omega
set_option maxRecDepth 100000 in
theorem rows_openB {t:TypeId} {fuel:Nat} {v:Value} {x:DataW H × List MemPlace} (ht:Tryz.prog.underlying t=some (.slice 59)) (h:DataW.trod enc Tryz.prog w 0 spare held fuel t [v]=some x) (hs:Sz Tryz.prog t x.1) :
 ∃ l:List (List Vl),RowsAt w v l/\RowsB l/\l.length<=Rows.uptoBulk x.1:=by
 have hb:Tryz.prog.bytesOf 59=24:=by kernel_rfl
 obtain⟨rows,hr,hd⟩:=open_rows (sz:=1) ht (by kernel_rfl) (by decide) h (fun el sp e=>by
  have:=(e ▸ hs).len ht
  rw[hb] at this
  omega)
 rcases hd with ⟨rfl,_⟩ | ⟨el,sp,e,hl,hi⟩
 ·exact⟨[],⟨[],hr,trivial⟩,by simp [RowsB],Nat.zero_le _⟩
 ·have hse:=fun d' (hd:d'∈el)=>(e ▸ hs:Sz Tryz.prog t (.slice el sp)).elem ht hd
  obtain⟨al,hal⟩:=all2_of (fun (row:List Value) (a : {a:List Vl // ∀ u∈a,RangeV u})=>VRowC w row a.1) rows (fun row hrow=>by
   obtain⟨i,hi'⟩:=List.getElem?_of_mem hrow
   obtain⟨hl1,n',d',Pl,hdi,hti⟩:=hi i row hi'
   obtain⟨y,rfl⟩:∃ y,row=[y]:=by
    match row,hl1 with
    | [y],_=>exact⟨y,rfl⟩
   obtain⟨vs,h1,h2,h3⟩:=vals_open Tryz.underlying59 hti (hse _ (List.mem_of_getElem? hdi))
   exact⟨⟨vs,h3⟩,y,rfl,h1,h2⟩)
  have h2:All2 (VRowC w) rows (al.map (·.1)):=by
   clear hi hse hl hr
   induction rows generalizing al with
   | nil=>cases al with
     | nil=>trivial
     | cons _ _=>exact hal.elim
   | cons p z ih=>cases al with
     | nil=>exact hal.elim
     | cons a al=>exact⟨hal.1,ih al hal.2⟩
  have hll:=h2.length
  have hbl:=bulk_len el
  refine⟨al.map (·.1),⟨rows,hr,h2⟩,fun r hr=>?_,?_⟩
  ·obtain⟨q,_,rfl⟩:=List.mem_map.1 hr
   exact q.2
  ·rw[e]
   simp only[Rows.uptoBulk]
   omega
set_option maxRecDepth 100000 in
theorem tbl_open {n:Nat} {row:List Value} {d:DataW H} {Pl:List MemPlace} (h:DataW.trod enc Tryz.prog w 0 spare held n 47 row=some (d,Pl)) (hs:Sz Tryz.prog 47 d) :
 ∃ a:Tbl,TblC w row a/\a.rel.length<=140737488351232/\RowsB a.rows/\a.rows.length<=Rows.uptoBulk d:=by
 obtain⟨y0,y1,m,hx,hl,h0,h1⟩:=trod_struct2 Tryz.underlying47 h
 have hc:Tryz.prog.cellsOf 47=2:=by kernel_rfl
 have c0:Tryz.prog.cellsOf 9=1:=by kernel_rfl
 have c1:Tryz.prog.cellsOf 45=1:=by kernel_rfl
 rw[hc] at hl
 simp only[Prod.mk.injEq] at hx
 rw[hx.1] at hs ⊢
 obtain⟨a,b,rfl⟩:=len2 hl
 simp only[c0,c1,List.drop_zero,List.take_succ_cons,List.take_zero,List.drop_succ_cons] at h0 h1
 obtain⟨s,e0,f0,_⟩:=DataW.trod_string Tryz.underlying9 h0
 simp only[List.cons.injEq,and_true] at e0
 subst e0
 obtain⟨l,h2,h3,h4⟩:=rows_openB Tryz.underlying45 h1 (hs.field Tryz.underlying47 (j:=1) rfl rfl)
 refine⟨⟨s.data.toList,l⟩,⟨b,by simp,h2⟩,lit_small Tryz.underlying47 rfl (by rw[f0];rfl) hs,h3,?_⟩
 simp only[Rows.uptoBulk,Rows.uptoBulkAll] at h4 ⊢
 omega
set_option maxRecDepth 100000 in
theorem tbls_arg {base:Nat} {v:Value} {d:DataW H} {p:List MemPlace} (hv:Value.okWide Tryz.prog w .any base 23 v) (h:DataW.Trod enc Tryz.prog w 0 spare held 23 v d p) (hs:Sz Tryz.prog 23 d) :
 ∃ l:List Tbl,TblsAt w v l/\(∀ t∈l,t.rel.length<=140737488351232/\RowsB t.rows)/\l.length+1<=Rows.uptoBulk d+1/\nRows l<=Rows.uptoBulk d:=by
 have hb:Tryz.prog.bytesOf 47=40:=by kernel_rfl
 obtain⟨a0,len,cap,rfl⟩:=okWide_slice Tryz.underlying23 hv
 obtain⟨n,hn⟩:=h
 obtain⟨rows,hr,hd⟩:=open_rows (sz:=2) (x:=(d,p)) Tryz.underlying23 (by kernel_rfl) (by decide) (by simpa [Value.cells] using hn) (fun el sp e=>by
  have e':d=.slice el sp:=e
  have hs':=hs
  rw[e'] at hs'
  have:=hs'.len Tryz.underlying23
  rw[hb] at this
  omega)
 rcases hd with ⟨rfl,_⟩ | ⟨el,sp,e,hl,hi⟩
 ·exact⟨[],⟨[],hr,trivial⟩,by simp,by simp,by simp [nRows]⟩
 ·have e':d=.slice el sp:=e
  have hs':=hs
  rw[e'] at hs' ⊢
  have hse:=fun d' (hd:d'∈el)=>hs'.elem Tryz.underlying23 hd
  obtain⟨al,hal,hsum⟩:=all2_sum (R:=fun (row:List Value) (a : {a:Tbl // a.rel.length<=140737488351232/\RowsB a.rows})=>TblC w row a.1) (fun a=>a.1.rows.length) rows el hl (fun i row d' q1 q2=>by
   obtain⟨hl1,n',d2,Pl,hdi,hti⟩:=hi i row q1
   rw[q2] at hdi
   simp only[Option.some.injEq] at hdi
   subst hdi
   obtain⟨a,h1,h2,h3,h4⟩:=tbl_open hti (hse _ (List.mem_of_getElem? q2))
   exact⟨⟨a,h2,h3⟩,h1,h4⟩)
  have h2:All2 (TblC w) rows (al.map (·.1)):=by
   clear hi hse hl hr hsum
   induction rows generalizing al with
   | nil=>cases al with
     | nil=>trivial
     | cons _ _=>exact hal.elim
   | cons p z ih=>cases al with
     | nil=>exact hal.elim
     | cons a al=>exact⟨hal.1,ih al hal.2⟩
  have hll:=h2.length
  have hbl:=bulk_len el
  refine⟨al.map (·.1),⟨rows,hr,h2⟩,fun t ht=>?_,?_,?_⟩
  ·obtain⟨q,_,rfl⟩:=List.mem_map.1 ht
   exact q.2
  ·simp only[Rows.uptoBulk]
   omega
  ·simp only[Rows.uptoBulk,nRows,List.map_map,Function.comp_def]
   omega
set_option maxRecDepth 100000 in
theorem qrys_arg {base:Nat} {v:Value} {d:DataW H} {p:List MemPlace} (hv:Value.okWide Tryz.prog w .any base 24 v) (h:DataW.Trod enc Tryz.prog w 0 spare held 24 v d p) (hs:Sz Tryz.prog 24 d) :
 ∃ l:List Qry,QrysAt w v l/\(∀ q∈l,QryB q)/\l.length<=Rows.uptoBulk d:=by
 have hb:Tryz.prog.bytesOf 50=64:=by kernel_rfl
 obtain⟨a0,len,cap,rfl⟩:=okWide_slice Tryz.underlying24 hv
 obtain⟨n,hn⟩:=h
 obtain⟨rows,hr,hd⟩:=open_rows (sz:=3) (x:=(d,p)) Tryz.underlying24 (by kernel_rfl) (by decide) (by simpa [Value.cells] using hn) (fun el sp e=>by
  have e':d=.slice el sp:=e
  have hs':=hs
  rw[e'] at hs'
  have:=hs'.len Tryz.underlying24
  rw[hb] at this
  omega)
 rcases hd with ⟨rfl,_⟩ | ⟨el,sp,e,hl,hi⟩
 ·exact⟨[],⟨[],hr,trivial⟩,by simp,Nat.zero_le _⟩
 ·have e':d=.slice el sp:=e
  have hs':=hs
  rw[e'] at hs' ⊢
  have hse:=fun d' (hd:d'∈el)=>hs'.elem Tryz.underlying24 hd
  obtain⟨al,hal⟩:=all2_of (fun (row:List Value) (a : {a:Qry // QryB a})=>QryC w row a.1) rows (fun row hrow=>by
   obtain⟨i,hi'⟩:=List.getElem?_of_mem hrow
   obtain⟨_,n',d',Pl,hdi,hti⟩:=hi i row hi'
   obtain⟨q,hv',av',h1,h2,h3,h4,h5,h6,h7⟩:=qry_openC hti (hse _ (List.mem_of_getElem? hdi))
   exact⟨⟨q,h5,h6,h4,h7⟩,hv',av',h1,h2,h3⟩)
  have h2:All2 (QryC w) rows (al.map (·.1)):=by
   clear hi hse hl hr
   induction rows generalizing al with
   | nil=>cases al with
     | nil=>trivial
     | cons _ _=>exact hal.elim
   | cons p z ih=>cases al with
     | nil=>exact hal.elim
     | cons a al=>exact⟨hal.1,ih al hal.2⟩
  have hll:=h2.length
  have hbl:=bulk_len el
  refine⟨al.map (·.1),⟨rows,hr,h2⟩,fun t ht=>?_,?_⟩
  ·obtain⟨q,_,rfl⟩:=List.mem_map.1 ht
   exact q.2
  ·simp only[Rows.uptoBulk]
   omega
end
end Go.Proofs.YtgopfpjinohncaaGreatDoor
