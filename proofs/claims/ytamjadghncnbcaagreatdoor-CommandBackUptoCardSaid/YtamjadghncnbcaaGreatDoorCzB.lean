/- A query as an argument, opened with the sizes of its texts. A relation as an argument, opened. -/
import Derived.Test.YtamjadghncnbcaaGreatDoorGlB
import Derived.Test.YtamjadghncnbcaaGreatDoorGhB
import Derived.Test.YtamjadghncnbcaaGreatDoorKaB
namespace Go.Proofs.YtamjadghncnbcaaGreatDoor
open Go.ChangeShapes Go.WideShapes Go.ChangeAt Go.RowKit Go.Deep Go.Joins
set_option linter.unusedVariables false
section
variable {H : Type} {enc : TypeId × Value -> H} {w : World} {spare : Nat -> Bool} {held : Bool}
theorem lit_small {t:TypeId} {ds:List (DataW H)} {fs:Array Field} {s:List UInt8} (hu:Tryz.prog.underlying t=some (.struct fs)) (hf:(fs.toList.map (·.type))[0]? = some 9) (h0:ds[0]? = some (.lit (.string s))) (h:Sz Tryz.prog t (.agg ds)):s.length<=140737488351232:=by
 have h1:=(h.field hu (j:=0) hf h0) s.length (by simp [DataW.weights])
 simpa [reachBytes] using h1
def TrmS (u:Trm):Prop:=(-9223372036854775808<=u.n/\u.n<=9223372036854775807)/\u.x.length<=140737488351232
def AtmS (a:Atm):Prop:=a.rel.length<=140737488351232/\∀ u∈a.ts,TrmS u
set_option maxRecDepth 100000 in
theorem terms_open9 {t:TypeId} {fuel:Nat} {v:Value} {x:DataW H × List MemPlace} (ht:Tryz.prog.underlying t=some (.slice 71)) (h:DataW.trod enc Tryz.prog w 0 spare held fuel t [v]=some x) (hs:Sz Tryz.prog t x.1) :
 ∃ ts:List Trm,RowAt w v 4 (ts.map Trm.cells)/\ts.length<=2932031007317/\∀ u∈ts,TrmS u:=by
 have hb:Tryz.prog.bytesOf 71=48:=by kernel_rfl
 obtain⟨rows,hr,hd⟩:=open_rows (sz:=4) ht (by kernel_rfl) (by decide) h (fun el sp e=>by
  have:=(e ▸ hs).len ht
  rw[hb] at this
  omega)
 rcases hd with ⟨rfl,_⟩ | ⟨el,sp,e,hl,hi⟩
 ·exact⟨[],hr,Nat.zero_le _,by simp⟩
 ·have hle:=(e ▸ hs).len ht
  rw[hb,hl] at hle
  obtain⟨m,hm⟩:=list_as (α := {u:Trm // TrmS u}) (fun u=>u.1.cells) rows (fun row hrow=>by
   obtain⟨i,hi'⟩:=List.getElem?_of_mem hrow
   obtain⟨_,n,d,Pl,h1,h2⟩:=hi i row hi'
   obtain⟨u,h3,h4,h5⟩:=trm_open h2
   have h6:=(e ▸ hs).elem ht (List.mem_of_getElem? h1)
   rw[h5] at h6
   exact⟨⟨u,h4,lit_small Tryz.underlying71 rfl rfl h6⟩,h3⟩)
  subst hm
  refine⟨m.map (·.1),by simpa [Function.comp_def] using hr,by simp at hle ⊢;omega,fun u hu=>?_⟩
  obtain⟨q,_,rfl⟩:=List.mem_map.1 hu
  exact q.2
set_option maxRecDepth 100000 in
theorem texts_open9 {t:TypeId} {fuel:Nat} {v:Value} {x:DataW H × List MemPlace} (ht:Tryz.prog.underlying t=some (.slice 9)) (h:DataW.trod enc Tryz.prog w 0 spare held fuel t [v]=some x) (hs:Sz Tryz.prog t x.1) :
 ∃ l:List (List UInt8),StrsAt w v l/\∀ s∈l,s.length<=140737488351232:=by
 have hb:Tryz.prog.bytesOf 9=16:=by kernel_rfl
 obtain⟨rows,hr,hd⟩:=open_rows (sz:=1) ht (by kernel_rfl) (by decide) h (fun el sp e=>by
  have:=(e ▸ hs).len ht
  rw[hb] at this
  omega)
 rcases hd with ⟨rfl,_⟩ | ⟨el,sp,e,hl,hi⟩
 ·exact⟨[],hr,by simp⟩
 ·obtain⟨m,hm⟩:=list_as (α := {s:List UInt8 // s.length<=140737488351232}) (fun s=>strC s.1) rows (fun row hrow=>by
   obtain⟨i,hi'⟩:=List.getElem?_of_mem hrow
   obtain⟨_,n,d,Pl,h1,h2⟩:=hi i row hi'
   obtain⟨s,h3,h4,_⟩:=DataW.trod_string Tryz.underlying9 h2
   have h6:=((e ▸ hs).elem ht (List.mem_of_getElem? h1)) s.data.toList.length (by rw[(Prod.mk.inj h4).1];simp [DataW.weights])
   exact⟨⟨s.data.toList,by simpa [reachBytes] using h6⟩,by simpa [strC] using h3⟩)
  subst hm
  refine⟨m.map (·.1),by simpa [StrsAt,Function.comp_def] using hr,fun s hs=>?_⟩
  obtain⟨q,_,rfl⟩:=List.mem_map.1 hs
  exact q.2
set_option maxRecDepth 100000 in
theorem atm_open9 {n:Nat} {row:List Value} {d:DataW H} {Pl:List MemPlace} (h:DataW.trod enc Tryz.prog w 0 spare held n 67 row=some (d,Pl)) (hs:Sz Tryz.prog 67 d) :
 ∃ a:Atm,AtmC w row a/\AtmS a:=by
 obtain⟨y0,y1,m,hx,hl,h0,h1⟩:=trod_struct2 Tryz.underlying67 h
 have hc:Tryz.prog.cellsOf 67=2:=by kernel_rfl
 have c0:Tryz.prog.cellsOf 9=1:=by kernel_rfl
 have c1:Tryz.prog.cellsOf 65=1:=by kernel_rfl
 rw[hc] at hl
 simp only[Prod.mk.injEq] at hx
 rw[hx.1] at hs
 obtain⟨a,b,rfl⟩:=len2 hl
 ·simp only[c0,c1,List.drop_zero,List.take_succ_cons,List.take_zero,List.drop_succ_cons] at h0 h1
  obtain⟨s,e0,f0,_⟩:=DataW.trod_string Tryz.underlying9 h0
  simp only[List.cons.injEq,and_true] at e0
  subst e0
  obtain⟨ts,hr,hn,hw⟩:=terms_open9 Tryz.underlying65 h1 (hs.field Tryz.underlying67 (j:=1) rfl rfl)
  exact⟨⟨s.data.toList,ts⟩,⟨b,by simp,hr,hn⟩,lit_small Tryz.underlying67 rfl (by rw[f0];rfl) hs,hw⟩
set_option maxRecDepth 100000 in
theorem atoms_open9 {t:TypeId} {fuel:Nat} {v:Value} {x:DataW H × List MemPlace} (ht:Tryz.prog.underlying t=some (.slice 67)) (h:DataW.trod enc Tryz.prog w 0 spare held fuel t [v]=some x) (hs:Sz Tryz.prog t x.1) :
 ∃ al:List Atm,AtomsAt w v al/\al.length<=3518437208780/\∀ a∈al,AtmS a:=by
 have hb:Tryz.prog.bytesOf 67=40:=by kernel_rfl
 obtain⟨rows,hr,hd⟩:=open_rows (sz:=2) ht (by kernel_rfl) (by decide) h (fun el sp e=>by
  have:=(e ▸ hs).len ht
  rw[hb] at this
  omega)
 rcases hd with ⟨rfl,_⟩ | ⟨el,sp,e,hl,hi⟩
 ·exact⟨[],⟨[],hr,trivial⟩,Nat.zero_le _,by simp⟩
 ·have hle:=(e ▸ hs).len ht
  rw[hb,hl] at hle
  have hse:=fun d (hd:d∈el)=>(e ▸ hs:Sz Tryz.prog t (.slice el sp)).elem ht hd
  obtain⟨al,hal⟩:=all2_of (fun (p:List Value) (a : {a:Atm // AtmS a})=>AtmC w p a.1) rows (fun p hp=>by
   obtain⟨i,hip⟩:=List.getElem?_of_mem hp
   obtain⟨_,n,d,Pl,hdi,hti⟩:=hi i p hip
   obtain⟨a,h1,h2⟩:=atm_open9 hti (hse d (List.mem_of_getElem? hdi))
   exact⟨⟨a,h2⟩,h1⟩)
  have h2:All2 (fun (p:List Value) (a:Atm)=>AtmC w p a) rows (al.map (·.1)):=by
   clear hi hse hl hr hle
   induction rows generalizing al with
   | nil=>cases al with
     | nil=>trivial
     | cons _ _=>exact hal.elim
   | cons p z ih=>cases al with
     | nil=>exact hal.elim
     | cons a al=>exact⟨hal.1,ih al hal.2⟩
  refine⟨al.map (·.1),⟨rows,hr,h2⟩,by rw[<-h2.length];omega,fun a ha=>?_⟩
  obtain⟨q,_,rfl⟩:=List.mem_map.1 ha
  exact q.2
end
end Go.Proofs.YtamjadghncnbcaaGreatDoor
namespace Go.Proofs.YtamjadghncnbcaaGreatDoor
open Go.ChangeShapes Go.WideShapes Go.ChangeAt Go.RowKit Go.Deep
set_option linter.unusedVariables false
section
variable {H : Type} {enc : TypeId × Value -> H} {w : World} {spare : Nat -> Bool} {held : Bool}
set_option maxRecDepth 100000 in
theorem col_open {n:Nat} {row:List Value} {d:DataW H} {Pl:List MemPlace} (h:DataW.trod enc Tryz.prog w 0 spare held n 64 row=some (d,Pl)) :
 ∃ c:Col,row=c.cells/\d=.agg [.lit (.string c.x),.lit (.int .i64 c.k)]:=by
 obtain⟨y0,y1,m,hx,hl,h0,h1⟩:=trod_struct2 Tryz.underlying64 h
 have hc:Tryz.prog.cellsOf 64=2:=by kernel_rfl
 have c0:Tryz.prog.cellsOf 9=1:=by kernel_rfl
 have c1:Tryz.prog.cellsOf 62=1:=by kernel_rfl
 rw[hc] at hl
 obtain⟨a,b,rfl⟩:=len2 hl
 ·simp only[c0,c1,List.drop_zero,List.take_succ_cons,List.take_zero,List.drop_succ_cons] at h0 h1
  obtain⟨s,e0,f0,_⟩:=DataW.trod_string Tryz.underlying9 h0
  obtain⟨k,e1,f1,wq⟩:=DataW.trod_int Tryz.underlying62 h1
  simp only[List.cons.injEq,and_true] at e0 e1
  subst e0 e1
  refine⟨⟨s.data.toList,k⟩,by simp [Col.cells],?_⟩
  simp only[Prod.mk.injEq] at hx
  rw[hx.1,f0,f1]
theorem col_small {c:Col} {d:DataW H} (hd:d=.agg [.lit (.string c.x),.lit (.int .i64 c.k)]) (h:Sz Tryz.prog 64 d):c.x.length<=140737488351232:=by
 subst hd
 have h1:=(h.field Tryz.underlying64 (j:=0) (u:=9) (d:=.lit (.string c.x)) rfl rfl) c.x.length (by simp [DataW.weights])
 simpa [reachBytes] using h1
set_option maxRecDepth 100000 in
theorem cols_open {t:TypeId} {fuel:Nat} {v:Value} {x:DataW H × List MemPlace} (ht:Tryz.prog.underlying t=some (.slice 64)) (h:DataW.trod enc Tryz.prog w 0 spare held fuel t [v]=some x) (hs:Sz Tryz.prog t x.1) :
 ∃ cs:List Col,ColsAt w v cs/\cs.length<=5864062014634/\∀ c∈cs,c.x.length<=140737488351232:=by
 have hb:Tryz.prog.bytesOf 64=24:=by kernel_rfl
 obtain⟨rows,hr,hd⟩:=open_rows (sz:=2) ht (by kernel_rfl) (by decide) h (fun el sp e=>by
  have:=(e ▸ hs).len ht
  rw[hb] at this
  omega)
 rcases hd with ⟨rfl,_⟩ | ⟨el,sp,e,hl,hi⟩
 ·exact⟨[],hr,Nat.zero_le _,by simp⟩
 ·have hle:=(e ▸ hs).len ht
  rw[hb,hl] at hle
  obtain⟨m,hm⟩:=list_as (α := {u:Col // u.x.length<=140737488351232}) (fun u=>u.1.cells) rows (fun row hrow=>by
   obtain⟨i,hi'⟩:=List.getElem?_of_mem hrow
   obtain⟨_,n,d,Pl,h1,h2⟩:=hi i row hi'
   obtain⟨u,h3,h4⟩:=col_open h2
   exact⟨⟨u,col_small h4 ((e ▸ hs).elem ht (List.mem_of_getElem? h1))⟩,h3⟩)
  subst hm
  refine⟨m.map (·.1),by simpa [ColsAt,Function.comp_def] using hr,by simp at hle ⊢;omega,fun u hu=>?_⟩
  obtain⟨q,_,rfl⟩:=List.mem_map.1 hu
  exact q.2
end
end Go.Proofs.YtamjadghncnbcaaGreatDoor
