/- dump.Lines, plainly: -/
import Derived.Test.YtgopfpjinohncaaGreatDoorInQryZF
import Derived.Test.YtgopfpjinohncaaGreatDoorArzZF
set_option linter.unusedVariables false
namespace Go.Proofs.YtgopfpjinohncaaGreatDoor
open Go.RowKit
def cE (r:aU):List UInt8:=wT { eD with kind:=1,rel:=r }
def bL (q:cf):List UInt8:=wT { eD with kind:=2,q:=q }
theorem pi (rels:List aU) (data:List eC) (qs:List cf):fV rels data qs=rels.map cE++rels.flatMap (fun r=>jr r.name [] 0 (dX (aT r.name data)))++qs.map bL:=rfl
theorem eT:∀ (l pre:List aU),fF pre l=0->∀ r∈l,cr r.name r.cols=0
 | [],_,_,_,h=>by cases h
 | x::l,pre,h,r,hr=>by
   unfold fF at h
   by_cases hx:cr x.name x.cols=0
   ·rw[up hx] at h
    cases hp:pre.any (fun s=>s.name == x.name) with
    | true=>rw[hp,if_pos rfl] at h;cases h
    | false =>
      rw[hp,if_neg (show ¬ (false=true) by decide)] at h
      rcases List.mem_cons.1 hr with rfl | hr
      ·exact hx
      ·exact eT l _ h r hr
   ·rw[j6 hx] at h
    exact absurd h hx
theorem jg (rels:List aU):∀ (l:List eC),fE rels l=0->∀ t∈l,∀ z∈t.rows,dj z=true
 | [],_,_,h=>by cases h
 | x::l,h,t,ht=>by
   unfold fE at h
   rw[Eo] at h
   rcases List.mem_cons.1 ht with rfl | ht
   ·intro z hz
    have h1:=h.1
    unfold qI at h1
    split at h1
    ·rename_i r _ _
     by_cases hall:(t.rows.all fun z=>de z r.cols)=true
     ·have h2:=List.all_eq_true.1 hall z hz
      unfold de at h2
      simp only[Bool.and_eq_true] at h2
      exact h2.2.1
     ·rw[if_neg hall] at h1
      cases h1
    ·cases h1
   ·exact jg rels l h.2 t ht
theorem lC {rels:List aU} {data:List eC} {qs:List cf} (h:hO rels data qs=0):fF [] rels=0/\fE rels data=0:=by
 unfold hO at h
 rw[Eo,Eo] at h
 exact⟨h.1,h.2.1⟩
theorem uB {rels:List aU} {data:List eC} {qs:List cf} (h:hO rels data qs=0) (hB:∀ t∈data,gk t.rows) {r:aU} (hr:r∈rels) {z:List Vl} (hz:z∈dX (aT r.name data)):(∀ u∈z,bG u)/\(bi r.name z).length<=1048576:=by
 rw[ie,gO] at hz
 obtain⟨t,ht,_,hz⟩:=hz
 have h1:=eT rels [] (lC h).1 r hr
 have h2:=bg (eM h1).1
 have h3:=jg rels data (lC h).2 t ht z hz
 have h4:=(gb h3 (hB t ht z hz)).2
 refine⟨hB t ht z hz,?_⟩
 have h5:bW z=cz z:=by unfold bW;rw[if_pos h3]
 unfold bi
 rw[h5,List.length_cons,List.length_append]
 omega
theorem jK (x:List UInt8):∀ l:List eC,(aT x l).length<=dy l
 | []=>Nat.le_refl _
 | t::l=>by
   have ih:=jK x l
   unfold aT
   rw[List.length_append]
   unfold dy at *
   rw[List.map_cons,List.sum_cons]
   by_cases h:t.rel=x
   ·rw[if_pos h];omega
   ·rw[if_neg h,List.length_nil];omega
theorem l6 (x:List UInt8) (t:eC):∀ l:List eC,aT x (l++[t])=aT x l++if t.rel=x then t.rows else []
 | []=>by simp [aT]
 | u::l=>by
   rw[List.cons_append]
   unfold aT
   rw[l6 x t l,List.append_assoc]
theorem sQ {x:List UInt8} {l:List eC} {k:Nat} {t:eC} (h:l[k]? = some t):aT x (l.take (k+1))=aT x (l.take k)++if t.rel=x then t.rows else []:=by
 rw[List.take_add_one,h]
 exact l6 x t _
theorem nz (l:List eC) (k:Nat):dy (l.take k)<=dy l:=by
 have h:l=l.take k++l.drop k:=(List.take_append_drop k l).symm
 have e:dy l=dy (l.take k)+dy (l.drop k):=by
  conv=>lhs;rw[h]
  unfold dy
  rw[List.map_append,List.sum_append]
 omega
theorem kd (x:List UInt8):∀ (rs:List (List Vl)) (line:List UInt8) (n:Nat),(jr x line n rs).length<=rs.length+(if n=0 then 0 else 1)
 | [],line,n=>by
   unfold jr
   by_cases h:n=0
   ·rw[if_neg (by omega),if_pos h];simp
   ·rw[if_pos (by omega),if_neg h];simp
 | r::rs,line,n=>by
   unfold jr
   have h1:=kd x rs ([98,97,116,99,104,32]++bi x r) 1
   have h2:=kd x rs (line++[98,97,116,99,104,32]++bi x r) 1
   have h3:=kd x rs (line++[44,32]++bi x r) (n+1)
   rw[if_neg (by omega)] at h1 h2 h3
   split
   ·rename_i h
    rw[List.length_cons,List.length_cons,if_neg (by omega)]
    omega
   ·split
    ·rename_i h
     rw[List.length_cons]
     omega
    ·rename_i h
     rw[List.length_cons]
     omega
theorem zh {x:List UInt8} {rows:List (List Vl)} {k:Nat} {r:List Vl} (h:rows[k]? = some r):jr x [] 0 (rows.drop k)=jr x ([98,97,116,99,104,32]++bi x r) 1 (rows.drop (k+1)):=by
 rw[show rows.drop k=r::rows.drop (k+1) by rw[<- (FE h).2,List.getElem_cons_drop]]
 show (if 0=256∨(0<0/\_) then _ else if 0=0 then _ else _)=_
 rw[if_neg (by simp),if_pos rfl]
 rfl
theorem kW:∀ (l pre:List cf),ip pre l=0->∀ q∈l,fQ q=0
 | [],_,_,_,h=>by cases h
 | x::l,pre,h,q,hq=>by
   unfold ip at h
   by_cases hx:fQ x=0
   ·rw[up hx] at h
    cases hp:pre.any (fun s=>s.name == x.name) with
    | true=>rw[hp,if_pos rfl] at h;cases h
    | false =>
      rw[hp,if_neg (show ¬ (false=true) by decide)] at h
      rcases List.mem_cons.1 hq with rfl | hq
      ·exact hx
      ·exact kW l _ h q hq
   ·rw[j6 hx] at h
    exact absurd h hx
theorem fk {rels:List aU} {data:List eC} {qs:List cf} (h:hO rels data qs=0):fF [] rels=0/\fE rels data=0/\ip [] qs=0:=by
 unfold hO at h
 rw[Eo,Eo] at h
 exact h
theorem iN {r:aU} (h:cr r.name r.cols=0):cE r=[114,101,108,32]++ct r.name r.cols:=by
 have hs:ct r.name r.cols≠[]:=by
  unfold ct
  rw[if_pos h]
  simp
 show (if (1:Int)<1∨18<(1:Int) then [] else match sm { eD with kind:=1,rel:=r } with
  | none=>[]
  | some r=>if r=[] then fU.getD ((1:Int) - 1).toNat [] else fU.getD ((1:Int) - 1).toNat []++32::r)=_
 rw[if_neg (by decide)]
 have hr:sm { eD with kind:=1,rel:=r }=some (ct r.name r.cols):=by
  show (if (1:Int)=1 then (if ct r.name r.cols=[] then none else some (ct r.name r.cols)) else _)=_
  rw[if_pos rfl,if_neg hs]
 rw[hr]
 show (if ct r.name r.cols=[] then _ else _)=_
 rw[if_neg hs]
 rfl
theorem gN {q:cf} (h:fQ q=0):bL q=[118,105,101,119,32]++gv q:=by
 have hs:gv q≠[]:=by
  unfold gv
  rw[if_pos h]
  unfold qT
  simp
 show (if (2:Int)<1∨18<(2:Int) then [] else match sm { eD with kind:=2,q:=q } with
  | none=>[]
  | some r=>if r=[] then fU.getD ((2:Int) - 1).toNat [] else fU.getD ((2:Int) - 1).toNat []++32::r)=_
 rw[if_neg (by decide)]
 have hr:sm { eD with kind:=2,q:=q }=some (gv q):=by
  show (if (2:Int)=1 then _ else if (2:Int)=2∨(2:Int)=14∨(2:Int)=15 then (if gv q=[] then none else some (gv q)) else _)=_
  rw[if_neg (by decide),if_pos (by decide),if_neg hs]
 rw[hr]
 show (if gv q=[] then _ else _)=_
 rw[if_neg hs]
 rfl
theorem kZ:∀ {d:List eC} {t:eC},t∈d->t.rows.length<=dy d
 | u::d,t,h=>by
   unfold dy
   rw[List.map_cons,List.sum_cons]
   rcases List.mem_cons.1 h with rfl | h
   ·omega
   ·have:=kZ h
    unfold dy at this
    omega
theorem wu (rels:List aU) (data:List eC) (qs:List cf):(fV rels data qs).length<=rels.length+rels.length * dy data+qs.length:=by
 have h:(rels.flatMap fun r=>jr r.name [] 0 (dX (aT r.name data))).length<=rels.length * dy data:=by
  induction rels with
  | nil=>simp
  | cons r rs ih =>
    rw[List.flatMap_cons,List.length_append,List.length_cons,Nat.succ_mul]
    have h1:=kd r.name (dX (aT r.name data)) [] 0
    have h2:=ot (aT r.name data)
    have h3:=jK r.name data
    simp only[if_true] at h1
    omega
 unfold fV
 simp only[List.length_append,List.length_map]
 omega
theorem bj.colsS {w:World} {v:Value} {l:List aU} (h:bj w v l):∀ c∈l,c.cols.length<=5864062014634:=by
 intro c hc
 obtain⟨i,hi⟩:=List.getElem?_of_mem hc
 obtain⟨_,_,_,_,_,_,_,_,_,_,_,h9⟩:=h.get hi
 exact h9
theorem bZ.sml {w:World} {v:Value} {l:List cf} (h:bZ w v l) (hb:∀ q∈l,iG q):DV l:=by
 intro q hq
 obtain⟨i,hi⟩:=List.getElem?_of_mem hq
 obtain⟨_,_,_,_,_,_,_,_,_,_,_,_,hh,ha⟩:=h.get hi
 exact⟨by simpa using hh.1,(hb q hq).natoms,ha.small⟩
