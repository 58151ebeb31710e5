/- A list of relations as an argument, opened. -/
import Derived.Test.YtgopfpjinohncaaGreatDoorGhF
import Derived.Test.YtgopfpjinohncaaGreatDoorRxF
import Derived.Test.YtgopfpjinohncaaGreatDoorDaF
import Derived.Shelf.GgSortFunc.Insertion
set_option maxHeartbeats 2000000
set_option maxRecDepth 100000
set_option linter.unusedVariables false
namespace Go.Proofs.YtgopfpjinohncaaGreatDoor
open Go.Proofs.Tryz
open Go.ChangeShapes Go.WideShapes Go.ChangeAt Go.RowKit Go.Deep
section
variable {H : Type} {enc : TypeId × Value -> H} {w : World} {spare : Nat -> Bool} {held : Bool}
theorem zL {n:Nat} {row:List Value} {d:DataW H} {Pl:List MemPlace} (h:DataW.trod enc prog w 0 spare held n 57 row=some (d,Pl)) (hs:Sz prog 57 d) :
 ∃ a:aU,qA w row a/\a.name.length<=140737488351232/\∀ c∈a.cols,c.x.length<=140737488351232:=by
 obtain⟨y0,y1,m,hx,hl,h0,h1⟩:=trod_struct2 underlying57 h
 have hc:prog.cellsOf 57=2:=by kernel_rfl
 have c0:prog.cellsOf 9=1:=by kernel_rfl
 have c1:prog.cellsOf 55=1:=by kernel_rfl
 rw[hc] at hl
 simp only[Prod.mk.injEq] at hx
 rw[hx.1] at hs
 obtain⟨a,b,rfl⟩:=mw hl
 simp only[c0,c1,List.drop_zero,List.take_succ_cons,List.take_zero,List.drop_succ_cons] at h0 h1
 obtain⟨s,e0,f0,_⟩:=DataW.trod_string underlying9 h0
 simp only[List.cons.injEq,and_true] at e0
 subst e0
 obtain⟨l,h2,h3,h4⟩:=xL underlying55 h1 (hs.field underlying57 (j:=1) rfl rfl)
 have h5:=(hs.field underlying57 (j:=0) (u:=9) (d:=.lit (.string s.data.toList)) rfl (by rw[f0];rfl)) s.data.toList.length (by simp [DataW.weights])
 exact⟨⟨s.data.toList,l⟩,⟨b,by simp,h2,h3⟩,by simpa [reachBytes] using h5,h4⟩
end
section
variable {H : Type} {enc : TypeId × Value -> H} {w : World} {spare : Nat -> Bool} {held : Bool}
theorem xj {base:Nat} {v:Value} {d:DataW H} {p:List MemPlace} (hv:Value.okWide prog w .any base 22 v) (h:DataW.Trod enc prog w 0 spare held 22 v d p) (hs:Sz prog 22 d) :
 ∃ l:List aU,bj w v l/\(∀ c∈l,c.name.length<=140737488351232/\∀ x∈c.cols,x.x.length<=140737488351232)/\l.length<=Rows.uptoBulk d:=by
 have hb:prog.bytesOf 57=40:=by kernel_rfl
 obtain⟨a0,len,cap,rfl⟩:=okWide_slice underlying22 hv
 obtain⟨n,hn⟩:=h
 obtain⟨rows,hr,hd⟩:=cX (sz:=2) (x:=(d,p)) underlying22 (by kernel_rfl) (by decide) (by simpa [Value.cells] using hn) (fun el sp e=>by
  have e':d=.slice el sp:=e
  have hs':=hs
  rw[e'] at hs'
  have:=hs'.len underlying22
  rw[hb] at this
  omega)
 rcases hd with ⟨rfl,_⟩ | ⟨el,sp,e,hl,hi⟩
 ·exact⟨[],⟨[],hr,trivial⟩,by simp,Fz⟩
 ·have e':d=.slice el sp:=e
  have hs':=hs
  rw[e'] at hs' ⊢
  have hse:=fun d' (hd:d'∈el)=>hs'.elem underlying22 hd
  obtain⟨al,hal⟩:=jY (fun (row:List Value) (a : {a:aU // a.name.length<=140737488351232/\∀ c∈a.cols,c.x.length<=140737488351232})=>qA w row a.1) rows (fun row hrow=>by
   obtain⟨i,hi'⟩:=List.getElem?_of_mem hrow
   obtain⟨_,n',d',Pl,hdi,hti⟩:=hi i row hi'
   obtain⟨a,h1,h2⟩:=zL hti (hse _ (FC hdi))
   exact⟨⟨a,h2⟩,h1⟩)
  have h2:aH (qA w) rows (al.map (·.1)):=by
   clear hi hse hl hr
   induction rows generalizing al with
   | nil=>cases al with
     | nil=>trivial
     | cons _ _=>exact hal.elim
   | cons p z ih=>cases al with
     | nil=>exact hal.elim
     | cons a al=>exact⟨hal.1,ih al hal.2⟩
  have hll:=h2.length
  have hbl:=kK el
  refine⟨al.map (·.1),⟨rows,hr,h2⟩,fun c hc=>?_,by simp only[Rows.uptoBulk];omega⟩
  obtain⟨q,_,rfl⟩:=List.mem_map.1 hc
  exact q.2
end
end Go.Proofs.YtgopfpjinohncaaGreatDoor
namespace Go.Proofs.YtgopfpjinohncaaGreatDoor
open Go.Proofs.Tryz
open Go.RowKit Go.Sort
section
variable {α : Type} [Inhabited α] {enc : α -> Value}
theorem uE {w:World} {base g cap n:Nat} {e:TypeId} {d:Array α} (ho:w.ownsRow base e 1 (.slice (some ⟨g,0,none⟩) n cap) n (d.toList.map enc)) (hd:d.size=n):Holds enc w g 0 d/\g<w.heap.size/\n<=cap:=by
 rcases ho.2 with ⟨h0,_⟩ | ⟨g',cap',cur,hv,hb,hg,h1,h2,h3,h4⟩
 ·simp at h0
 simp only[Value.slice.injEq,Option.some.injEq,Addr.mk.injEq,and_true,true_and] at hv
 obtain⟨rfl,rfl⟩:=hv
 refine⟨fun j hj=>⟨?_,by simp [World.frozen?,hg]⟩,(Array.getElem?_eq_some_iff.1 hg).1,h1⟩
 have h5:(cur.toList.take (n * 1))[j]? = (d.toList.map enc)[j]? := by rw[h4]
 rw[List.getElem?_take_of_lt (by omega),Array.getElem?_toList,List.getElem?_map,Array.getElem?_toList,Array.getElem?_eq_getElem (xs:=d) hj,<-getElem!_pos] at h5
 simp only[World.cell?,hg,Nat.zero_add]
 simpa using h5
theorem lM {w:World} {base g cap n m:Nat} {e:TypeId} {os:Array Obj} {d':Array α} {xs:List Value} (ho:w.ownsRow base e 1 (.slice (some ⟨g,0,none⟩) n cap) n xs) (hd:d'.size=n) :
 (sortWorld enc w g 0 m d' os).ownsRow base e 1 (.slice (some ⟨g,0,none⟩) n cap) n (d'.toList.map enc)/\aq (fun j=>j=g) w (sortWorld enc w g 0 m d' os):=by
 rcases ho.2 with ⟨h0,_⟩ | ⟨g',cap',cur,hv,hb,hg,h1,h2,h3,h4⟩
 ·simp at h0
 simp only[Value.slice.injEq,Option.some.injEq,Addr.mk.injEq,and_true,true_and] at hv
 obtain⟨rfl,rfl⟩:=hv
 have hgl:g<w.heap.size:=(Array.getElem?_eq_some_iff.1 hg).1
 have hw:sortWorld enc w g 0 m d' os=grow (putRow enc (Sort.ahead w m) g 0 d') os:=rfl
 refine⟨⟨by rw[List.length_map,Array.length_toList,hd,Nat.mul_one],.inr ⟨g,cap,putCells enc 0 d' cur,rfl,hb,?_,h1,h2,by simp [putCells,h3],?_⟩⟩,?_⟩
 ·rw[hw,heap_grow_old _ _ (by simpa using hgl)]
  simp [putRow,mapBlock,Sort.ahead,Array.getElem?_modify,hg,onCells]
 ·apply List.ext_getElem?
  intro j
  by_cases hj:j<n
  ·rw[List.getElem?_take_of_lt (by omega),Array.getElem?_toList,List.getElem?_map,Array.getElem?_toList,Array.getElem?_eq_getElem (xs:=d') (by omega),<-getElem!_pos]
   simp [putCells,hd,hj,show j<cur.size by omega]
  ·rw[List.getElem?_take_eq_none (by omega),List.getElem?_eq_none (by rw[List.length_map,Array.length_toList];omega)]
 ·refine⟨rfl,rfl,rfl,by rw[hw];simp,fun i hi hne=>?_⟩
  rw[hw,heap_grow_old _ _ (by simpa using hi)]
  have:g≠i:=fun e=>hne e.symm
  simp [putRow,mapBlock,Sort.ahead,Array.getElem?_modify,this]
end
end Go.Proofs.YtgopfpjinohncaaGreatDoor
namespace Go.Proofs.YtgopfpjinohncaaGreatDoor
open Go.Proofs.Tryz
open Go.RowKit
def rC (l:List UInt8):Bool:=decide ((aN l).e=0/\(aN l).ts.length=1)
theorem Ct (n:Nat):((n:Int) == 1)=decide (n=1):=by
 by_cases h:n=1
 ·simp [h]
 ·have h2:¬ ((n:Int)=1):=by omega
  simp [h,h2]
theorem ph (s:ByteArray) (w:World) (hs:s.size<=281474976710656) (hg:bY w) :
 Calls prog 41 #[.string s] w fun e w'=>e=.returned (.bool (rC s.data.toList))/\Below w.heap.size w w':=by
 have ht:=jy s w hs hg
 unfold rC
 generalize aN s.data.toList=R at *
 obtain⟨ts,p,e0⟩:=R
 unfold wZ at ht
 simp only at ht ⊢
 have HT:=Fx ht
 clear ht hg
 by_cases he:e0=0
 ·subst he
  go_enter func41,ntmps41
  go_wp2_with fail
  refine HT.out.mono ?_
  rintro e w1 ⟨ad,cap,rfl,_,hb⟩
  have HB:=Fx hb
  clear hb HT
  go_wp2_with fail
  go_ret
  exact⟨by simp [Ct],HB.out⟩
 ·have q0:(e0 == 0)=false:=by simpa using he
  have q1:decide (e0=0/\ts.length=1)=false:=by simp [he]
  rw[q1]
  clear he q1
  go_enter func41,ntmps41
  go_wp2_with fail
  refine HT.out.mono ?_
  rintro e w1 ⟨ad,cap,rfl,_,hb⟩
  have HB:=Fx hb
  clear hb HT
  go_wp2_with fail
  go_ret
  exact⟨by first | rfl | simp,HB.out⟩
