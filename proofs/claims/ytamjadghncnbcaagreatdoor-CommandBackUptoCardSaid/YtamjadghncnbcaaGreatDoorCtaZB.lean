/- A command as an argument, opened with the sizes of its texts. -/
import Derived.Test.YtamjadghncnbcaaGreatDoorCzB
import Derived.Test.YtamjadghncnbcaaGreatDoorGlB
import Derived.Test.YtamjadghncnbcaaGreatDoorDxB
namespace Go.Proofs.YtamjadghncnbcaaGreatDoor
open Go.ChangeShapes Go.WideShapes Go.ChangeAt Go.RowKit Go.Deep Go.Joins
set_option linter.unusedVariables false
structure BigC (w:World) (cells:Array Value) (c:Cmd) (N:Nat):Prop where
 at_:CmdAt w cells c
 rname:c.rel.name.length<=140737488351232
 cols:∀ x∈c.rel.cols,x.x.length<=140737488351232
 ncols:c.rel.cols.length<=5864062014634
 qname:c.q.name.length<=140737488351232
 heads:∀ s∈c.q.head,s.length<=140737488351232
 natoms:c.q.atoms.length<=3518437208780
 each:∀ a∈c.q.atoms,AtmS a
 batch:RangeB c.b
 brel:∀ x∈c.b,x.rel.length<=140737488351232
 nb:c.b.length<=2932031007402
 bulk:c.b.length<=N
 name:c.nm.length<=140737488351232
 id : -9223372036854775808<=c.id/\c.id<=9223372036854775807
 n : -9223372036854775808<=c.n/\c.n<=9223372036854775807
 kind : -9223372036854775808<=c.kind/\c.kind<=9223372036854775807
 row:∀ u∈c.row,RangeV u
 nrow:c.row.length<=4398046511104
theorem len11 {cs:List Value} (h:cs.length=11):∃ a0 a1 a2 a3 a4 a5 a6 a7 a8 a9 a10,cs=[a0,a1,a2,a3,a4,a5,a6,a7,a8,a9,a10]:=by
 match cs,h with
 | [a0,a1,a2,a3,a4,a5,a6,a7,a8,a9,a10],_=>exact⟨a0,a1,a2,a3,a4,a5,a6,a7,a8,a9,a10,rfl⟩
section
variable {H : Type} {enc : TypeId × Value -> H} {w : World} {spare : Nat -> Bool} {held : Bool}
set_option maxRecDepth 100000 in
theorem rel_openC {n:Nat} {row:List Value} {d:DataW H} {Pl:List MemPlace} (h:DataW.trod enc Tryz.prog w 0 spare held n 25 row=some (d,Pl)) (hs:Sz Tryz.prog 25 d) :
 ∃ (a:Rln) (cv:Value),row=[.string ⟨a.name.toArray⟩,cv]/\ColsAt w cv a.cols/\a.cols.length<=5864062014634/\a.name.length<=140737488351232/\∀ c∈a.cols,c.x.length<=140737488351232:=by
 obtain⟨y0,y1,m,hx,hl,h0,h1⟩:=trod_struct2 Tryz.underlying25 h
 have hc:Tryz.prog.cellsOf 25=2:=by kernel_rfl
 have c0:Tryz.prog.cellsOf 9=1:=by kernel_rfl
 have c1:Tryz.prog.cellsOf 23=1:=by kernel_rfl
 rw[hc] at hl
 simp only[Prod.mk.injEq] at hx
 rw[hx.1] at hs
 obtain⟨a,b,rfl⟩:=len2 hl
 simp only[c0,c1,List.drop_zero,List.take_succ_cons,List.take_zero,List.drop_succ_cons] at h0 h1
 obtain⟨s,e0,f0,_⟩:=DataW.trod_string Tryz.underlying9 h0
 simp only[List.cons.injEq,and_true] at e0
 subst e0
 obtain⟨l,h2,h3,h4⟩:=cols_open Tryz.underlying23 h1 (hs.field Tryz.underlying25 (j:=1) rfl rfl)
 exact⟨⟨s.data.toList,l⟩,b,by simp,h2,h3,lit_small Tryz.underlying25 rfl (by rw[f0];rfl) hs,h4⟩
set_option maxRecDepth 100000 in
theorem qry_openC {n:Nat} {row:List Value} {d:DataW H} {Pl:List MemPlace} (h:DataW.trod enc Tryz.prog w 0 spare held n 29 row=some (d,Pl)) (hs:Sz Tryz.prog 29 d) :
 ∃ (q:Qry) (hv av:Value),row=[.string ⟨q.name.toArray⟩,hv,av]/\StrsAt w hv q.head/\AtomsAt w av q.atoms/\q.atoms.length<=3518437208780/\q.name.length<=140737488351232/\(∀ s∈q.head,s.length<=140737488351232)/\∀ a∈q.atoms,AtmS a:=by
 obtain⟨y0,y1,y2,m,hx,hl,h0,h1,h2⟩:=trod_struct3 Tryz.underlying29 h
 have hc:Tryz.prog.cellsOf 29=3:=by kernel_rfl
 have c0:Tryz.prog.cellsOf 9=1:=by kernel_rfl
 have c1:Tryz.prog.cellsOf 26=1:=by kernel_rfl
 have c2:Tryz.prog.cellsOf 27=1:=by kernel_rfl
 rw[hc] at hl
 simp only[Prod.mk.injEq] at hx
 rw[hx.1] at hs
 obtain⟨a,b,c,rfl⟩:=len3 hl
 simp only[c0,c1,c2,List.drop_zero,List.take_succ_cons,List.take_zero,List.drop_succ_cons] at h0 h1 h2
 obtain⟨s,e0,f0,_⟩:=DataW.trod_string Tryz.underlying9 h0
 simp only[List.cons.injEq,and_true] at e0
 subst e0
 obtain⟨hd,hh,hhd⟩:=texts_open9 Tryz.underlying26 h1 (hs.field Tryz.underlying29 (j:=1) rfl rfl)
 obtain⟨al,ha,hal,hw⟩:=atoms_open9 Tryz.underlying27 h2 (hs.field Tryz.underlying29 (j:=2) rfl rfl)
 exact⟨⟨s.data.toList,hd,al⟩,b,c,by simp,hh,ha,hal,lit_small Tryz.underlying29 rfl (by rw[f0];rfl) hs,hhd,hw⟩
set_option maxRecDepth 100000 in
theorem chgs_openC {fuel:Nat} {v:Value} {x:DataW H × List MemPlace} (h:DataW.trod enc Tryz.prog w 0 spare held fuel 30 [v]=some x) (hs:Sz Tryz.prog 30 x.1) :
 ∃ l:List Chg,ChgsAt w v l/\RangeB l/\(∀ c∈l,c.rel.length<=140737488351232)/\l.length<=Rows.uptoBulk x.1/\l.length<=2932031007402:=by
 have hb:Tryz.prog.bytesOf 51=48:=by kernel_rfl
 obtain⟨rows,hr,hd⟩:=open_rows (sz:=3) Tryz.underlying30 (by kernel_rfl) (by decide) h (fun el sp e=>by
  have:=(e ▸ hs).len Tryz.underlying30
  rw[hb] at this
  omega)
 rcases hd with ⟨rfl,_⟩ | ⟨el,sp,e,hl,hi⟩
 ·exact⟨[],⟨[],hr,trivial⟩,fun c hc=>by simp at hc,by simp,Nat.zero_le _,Nat.zero_le _⟩
 ·have hle:=(e ▸ hs).len Tryz.underlying30
  rw[hb,hl] at hle
  have hse:=fun d' (hd:d'∈el)=>(e ▸ hs:Sz Tryz.prog 30 (.slice el sp)).elem Tryz.underlying30 hd
  obtain⟨al,hal⟩:=all2_of (fun (row:List Value) (a : {a:Chg // (∀ u∈a.row,RangeV u)/\a.rel.length<=140737488351232})=>ChgC w row a.1) rows (fun row hrow=>by
   obtain⟨i,hi'⟩:=List.getElem?_of_mem hrow
   obtain⟨_,n',d',Pl,hdi,hti⟩:=hi i row hi'
   obtain⟨a,h1,h2,h3⟩:=chg_open hti (hse _ (List.mem_of_getElem? hdi))
   exact⟨⟨a,h2,h3⟩,h1⟩)
  have h2:All2 (ChgC w) rows (al.map (·.1)):=by
   clear hi hse hl hle hr
   induction rows generalizing al with
   | nil=>cases al with
     | nil=>trivial
     | cons _ _=>exact hal.elim
   | cons p z ih=>cases al with
     | nil=>exact hal.elim
     | cons a al=>exact⟨hal.1,ih al hal.2⟩
  have hll:=h2.length
  have hbl:=bulk_len el
  have hsub:rows.length<=Rows.uptoBulk x.1:=by
   rw[e]
   simp only[Rows.uptoBulk]
   omega
  refine⟨al.map (·.1),⟨rows,hr,h2⟩,fun c hc=>?_,fun c hc=>?_,by omega,by omega⟩
  ·obtain⟨q,_,rfl⟩:=List.mem_map.1 hc
   exact q.2.1
  ·obtain⟨q,_,rfl⟩:=List.mem_map.1 hc
   exact q.2.2
theorem bulk_mem {d:DataW H}:∀ {l:List (DataW H)},d∈l->Rows.uptoBulk d<=Rows.uptoBulkAll l
 | x::r,h=>by
   simp only[Rows.uptoBulkAll]
   rcases List.mem_cons.1 h with rfl | h
   ·omega
   ·have:=bulk_mem h
    omega
set_option maxRecDepth 100000 in
theorem cmd_arg {base:Nat} {v:Value} {d:DataW H} {p:List MemPlace} (hv:Value.okWide Tryz.prog w .any base 34 v) (h:DataW.Trod enc Tryz.prog w 0 spare held 34 v d p) (hs:Sz Tryz.prog 34 d) :
 ∃ cells c,v=.agg cells/\BigC w cells c (Rows.uptoBulk d):=by
 obtain⟨cs0,rfl,hsz⟩:=okWide_struct Tryz.underlying34 hv
 obtain⟨n,hn⟩:=h
 obtain⟨xs,m,_,hx,hl,hlen,hf⟩:=DataW.trod_struct Tryz.underlying34 hn
 obtain⟨y0,y1,y2,y3,y4,y5,y6,y7,rfl⟩:∃ y0 y1 y2 y3 y4 y5 y6 y7,xs=[y0,y1,y2,y3,y4,y5,y6,y7]:=by
  match xs,hlen with
  | [y0,y1,y2,y3,y4,y5,y6,y7],_=>exact⟨y0,y1,y2,y3,y4,y5,y6,y7,rfl⟩
 have hc:Tryz.prog.cellsOf 34=11:=by kernel_rfl
 rw[hc] at hl
 obtain⟨a0,a1,a2,a3,a4,a5,a6,a7,a8,a9,a10,hab⟩:=len11 hl
 have hcs:cs0=#[a0,a1,a2,a3,a4,a5,a6,a7,a8,a9,a10]:=Array.toList_inj.1 hab
 subst hcs
 have c0:Tryz.prog.cellsOf 22=1:=by kernel_rfl
 have c1:Tryz.prog.cellsOf 25=2:=by kernel_rfl
 have c2:Tryz.prog.cellsOf 29=3:=by kernel_rfl
 have c3:Tryz.prog.cellsOf 30=1:=by kernel_rfl
 have c4:Tryz.prog.cellsOf 9=1:=by kernel_rfl
 have c5:Tryz.prog.cellsOf 3=1:=by kernel_rfl
 have c6:Tryz.prog.cellsOf 32=1:=by kernel_rfl
 have g0:DataW.trod enc Tryz.prog w 0 spare held m 22 [a0]=some y0:=by simpa [Value.cells,c0] using hf 0 _ rfl
 have g1:DataW.trod enc Tryz.prog w 0 spare held m 25 [a1,a2]=some y1:=by simpa [Value.cells,c1] using hf 1 _ rfl
 have g2:DataW.trod enc Tryz.prog w 0 spare held m 29 [a3,a4,a5]=some y2:=by simpa [Value.cells,c2] using hf 2 _ rfl
 have g3:DataW.trod enc Tryz.prog w 0 spare held m 30 [a6]=some y3:=by simpa [Value.cells,c3] using hf 3 _ rfl
 have g4:DataW.trod enc Tryz.prog w 0 spare held m 9 [a7]=some y4:=by simpa [Value.cells,c4] using hf 4 _ rfl
 have g5:DataW.trod enc Tryz.prog w 0 spare held m 3 [a8]=some y5:=by simpa [Value.cells,c5] using hf 5 _ rfl
 have g6:DataW.trod enc Tryz.prog w 0 spare held m 3 [a9]=some y6:=by simpa [Value.cells,c5] using hf 6 _ rfl
 have g7:DataW.trod enc Tryz.prog w 0 spare held m 32 [a10]=some y7:=by simpa [Value.cells,c6] using hf 7 _ rfl
 simp only[Prod.mk.injEq] at hx
 have hu:Tryz.prog.underlying 34=_:=Tryz.underlying34
 rw[hx.1] at hs
 simp only[List.map_cons,List.map_nil] at hs
 obtain⟨k,e0,f0,w0⟩:=DataW.trod_int Tryz.underlying22 g0
 obtain⟨r,cv,e1,hr1,hr2,hr3,hr4⟩:=rel_openC (d:=y1.1) (Pl:=y1.2) g1 (hs.field hu (j:=1) rfl rfl)
 obtain⟨q,qh,qa,e2,hq1,hq2,hq3,hq4,hq5,hq6⟩:=qry_openC (d:=y2.1) (Pl:=y2.2) g2 (hs.field hu (j:=2) rfl rfl)
 obtain⟨b,hb1,hb2,hb3,hb4,hb5⟩:=chgs_openC g3 (hs.field hu (j:=3) rfl rfl)
 obtain⟨s,e4,f4,_⟩:=DataW.trod_string Tryz.underlying9 g4
 obtain⟨i,e5,f5,w5⟩:=DataW.trod_int Tryz.underlying3 g5
 obtain⟨j,e6,f6,w6⟩:=DataW.trod_int Tryz.underlying3 g6
 obtain⟨us,hu1,hu2,hu3⟩:=vals_open Tryz.underlying32 g7 (hs.field hu (j:=7) rfl rfl)
 simp only[List.cons.injEq,and_true] at e0 e1 e2 e4 e5 e6
 obtain⟨rfl,rfl⟩:=e1
 obtain⟨rfl,rfl,rfl⟩:=e2
 subst e0 e4 e5 e6
 have hsm:s.data.toList.length<=140737488351232:=by
  have h6:=(hs.field hu (j:=4) (u:=9) (d:=.lit (.string s.data.toList)) rfl (by rw[f4];rfl)) s.data.toList.length (by simp [DataW.weights])
  simpa [reachBytes] using h6
 refine⟨_,⟨k,r,q,b,s.data.toList,i,j,us⟩,rfl,⟨⟨_,_,_,_,_,by simp,hr1,hq1,hq2,hb1,hu1⟩,hr3,hr4,hr2,hq4,hq5,hq3,hq6,hb2,hb3,hb5,?_,hsm,wf_bounds w5,wf_bounds w6,wf_bounds w0,hu3,hu2⟩⟩
 refine Nat.le_trans hb4 ?_
 rw[hx.1]
 simp only[Rows.uptoBulk]
 exact Nat.le_trans (bulk_mem (l:=[y0.1,y1.1,y2.1,y3.1,y4.1,y5.1,y6.1,y7.1]) (by simp)) (by simp)
end
end Go.Proofs.YtamjadghncnbcaaGreatDoor
