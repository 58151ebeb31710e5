/- The dump, plainly: -/
import Derived.Test.YtgopfpjinohncaaGreatDoorNaF
import Derived.Test.YtgopfpjinohncaaGreatDoorDaF
import Derived.Test.YtgopfpjinohncaaGreatDoorCyF
set_option linter.unusedVariables false
namespace Go.Proofs.YtgopfpjinohncaaGreatDoor
open Go.RowKit
structure eC where
 rel:List UInt8
 rows:List (List Vl)
def xu (l:List (List Vl)):Prop:=l.Pairwise fun x y=>aw x y<0
def mh (x:List Vl):List (List Vl)->List (List Vl)
 | []=>[x]
 | y::r=>if aw x y<0 then x::y::r else if aw x y=0 then y::r else y::mh x r
def dX (l:List (List Vl)):List (List Vl):=l.foldr mh []
theorem nA:∀ (r:List (List Vl)) (x z:List Vl),z∈mh x r ↔ z=x∨z∈r
 | [],x,z=>by simp [mh]
 | y::r,x,z=>by
   unfold mh
   by_cases h:aw x y<0
   ·rw[if_pos h,List.mem_cons]
   ·rw[if_neg h]
    by_cases h0:aw x y=0
    ·rw[if_pos h0,iP _ _ h0,List.mem_cons]
     exact⟨fun q=>.inr q,fun q=>q.elim .inl id⟩
    ·rw[if_neg h0,List.mem_cons,nA r x z,List.mem_cons]
     exact⟨fun h=>by rcases h with h | h | h<;>simp [h],fun h=>by rcases h with h | h | h<;>simp [h]⟩
theorem lZ:∀ (r:List (List Vl)) (x:List Vl),xu r->xu (mh x r)
 | [],x,_=>by simp [mh,xu]
 | y::r,x,h=>by
   unfold mh
   have h1:=List.pairwise_cons.1 h
   by_cases hc:aw x y<0
   ·rw[if_pos hc]
    refine List.pairwise_cons.2 ⟨fun z hz=>?_,h⟩
    rcases List.mem_cons.1 hz with rfl | hz
    ·exact hc
    ·exact dS _ _ _ hc (h1.1 z hz)
   ·rw[if_neg hc]
    by_cases h0:aw x y=0
    ·rw[if_pos h0]
     exact h
    ·rw[if_neg h0]
     refine List.pairwise_cons.2 ⟨fun z hz=>?_,lZ r x h1.2⟩
     rcases (nA r x z).1 hz with rfl | hz
     ·rw[eB z y]
      omega
     ·exact h1.1 z hz
theorem lQ:∀ l:List (List Vl),xu (dX l)
 | []=>List.Pairwise.nil
 | x::l=>lZ _ x (lQ l)
theorem ie {z:List Vl}:∀ {l:List (List Vl)},z∈dX l ↔ z∈l
 | []=>Iff.rfl
 | x::l=>by
   show z∈mh x (dX l) ↔ _
   rw[nA,ie (l:=l),List.mem_cons]
theorem xu.unique:∀ (a b:List (List Vl)),xu a->xu b->(∀ z,z∈a ↔ z∈b)->a=b
 | [],[],_,_,_=>rfl
 | [],y::m,_,_,h=>absurd ((h y).2 List.mem_cons_self) (by simp)
 | x::l,[],_,_,h=>absurd ((h x).1 List.mem_cons_self) (by simp)
 | x::l,y::m,ha,hb,h=>by
   have h1:=List.pairwise_cons.1 ha
   have h2:=List.pairwise_cons.1 hb
   have hxy:x=y:=by
    rcases List.mem_cons.1 ((h x).1 List.mem_cons_self) with e | e
    ·exact e
    ·rcases List.mem_cons.1 ((h y).2 List.mem_cons_self) with e' | e'
     ·exact e'.symm
     ·have q1:=h2.1 x e
      have q2:=h1.1 y e'
      rw[eB x y] at q1
      omega
   subst hxy
   rw[xu.unique l m h1.2 h2.2 fun z=>⟨fun hz=>?_,fun hz=>?_⟩]
   ·rcases List.mem_cons.1 ((h z).1 (List.mem_cons_of_mem _ hz)) with e | e
    ·have:=h1.1 z hz
     rw[e,fP] at this
     omega
    ·exact e
   ·rcases List.mem_cons.1 ((h z).2 (List.mem_cons_of_mem _ hz)) with e | e
    ·have:=h2.1 z hz
     rw[e,fP] at this
     omega
    ·exact e
theorem Dc {a l:List (List Vl)} (h:xu a) (hm:∀ z,z∈a ↔ z∈l):a=dX l :=
 xu.unique _ _ h (lQ l) fun z=>(hm z).trans ie.symm
theorem rJ:∀ (r:List (List Vl)) (x:List Vl),(mh x r).length<=r.length+1
 | [],x=>Nat.le_refl _
 | y::r,x=>by
   unfold mh
   have ih:=rJ r x
   by_cases h:aw x y<0
   ·rw[if_pos h];simp
   ·rw[if_neg h]
    by_cases h0:aw x y=0
    ·rw[if_pos h0];simp
    ·rw[if_neg h0];simp only[List.length_cons];omega
theorem ot:∀ l:List (List Vl),(dX l).length<=l.length
 | []=>Nat.le_refl _
 | x::l=>by
   have h1:=rJ (dX l) x
   have h2:=ot l
   show (mh x (dX l)).length<=_
   simp only[List.length_cons]
   omega
def aT (x:List UInt8):List eC->List (List Vl)
 | []=>[]
 | t::d=>(if t.rel=x then t.rows else [])++aT x d
theorem gO {x:List UInt8} {z:List Vl}:∀ {d:List eC},z∈aT x d ↔ ∃ t∈d,t.rel=x/\z∈t.rows
 | []=>by simp [aT]
 | t::d=>by
   unfold aT
   rw[List.mem_append,gO (d:=d)]
   by_cases h:t.rel=x
   ·rw[if_pos h]
    simp [h]
   ·rw[if_neg h]
    simp [h]
def fF (pre:List aU):List aU->Int
 | []=>0
 | r::rs=>if cr r.name r.cols≠0 then cr r.name r.cols else if pre.any (fun s=>s.name == r.name) then 85 else fF (pre++[r]) rs
def wR (p:Vl × bd):Bool:=decide (p.1.k=p.2.k)
def de (row:List Vl) (cols:List bd):Bool:=decide (row.length=cols.length) && (dj row && (row.zip cols).all wR)
def qI (d:List aU) (t:eC):Int:=match d[(oB d t.rel).toNat]?,decide (0<=oB d t.rel) with
 | some r,true=>if t.rows.all (fun z=>de z r.cols)=true then 0 else 87
 | _,_=>86
def fE (d:List aU):List eC->Int
 | []=>0
 | t::ts=>if qI d t≠0 then qI d t else fE d ts
def ip (pre:List cf):List cf->Int
 | []=>0
 | q::qs=>if fQ q≠0 then fQ q else if pre.any (fun s=>s.name == q.name) then 85 else ip (pre++[q]) qs
def hO (rels:List aU) (data:List eC) (qs:List cf):Int :=
 if fF [] rels≠0 then fF [] rels else if fE rels data≠0 then fE rels data else ip [] qs
def bi (x:List UInt8) (r:List Vl):List UInt8:=43::(x++bW r)
def jr (x:List UInt8):List UInt8->Nat->List (List Vl)->List (List UInt8)
 | line,n,[]=>if 0<n then [line] else []
 | line,n,r::rs =>
   if n=256∨(0<n/\16384<line.length+2+(bi x r).length) then line::jr x ([98,97,116,99,104,32]++bi x r) 1 rs
   else if n=0 then jr x (line++[98,97,116,99,104,32]++bi x r) 1 rs
   else jr x (line++[44,32]++bi x r) (n+1) rs
def fV (rels:List aU) (data:List eC) (qs:List cf):List (List UInt8) :=
 rels.map (fun r=>wT { eD with kind:=1,rel:=r })++rels.flatMap (fun r=>jr r.name [] 0 (dX (aT r.name data)))++qs.map (fun q=>wT { eD with kind:=2,q:=q })
theorem Eo (a b:Int):(if a≠0 then a else b)=0 ↔ a=0/\b=0:=by
 by_cases h:a=0
 ·rw[if_neg (by simpa using h)]
  exact⟨fun q=>⟨h,q⟩,fun q=>q.2⟩
 ·rw[if_pos h]
  exact⟨fun q=>absurd q h,fun q=>q.1⟩
def cy {α:Type} (p:Nat->Bool):Nat->List α->List α
 | _,[]=>[]
 | i,x::l=>if p i then cy p (i+1) l else x::cy p (i+1) l
section
variable {α β : Type} {p : Nat -> Bool}
theorem jC:∀ (i:Nat) (l:List α) (x:α),cy p i (l++[x])=cy p i l++if p (i+l.length) then [] else [x]
 | i,[],x=>by
   show (if p i=true then [] else [x])=[]++_
   simp
 | i,y::l,x=>by
   have h:=jC (i+1) l x
   rw[show i+1+l.length=i+(y::l).length by rw[List.length_cons];omega] at h
   rw[List.cons_append]
   show (if p i=true then cy p (i+1) (l++[x]) else y::cy p (i+1) (l++[x]))=(if p i=true then cy p (i+1) l else y::cy p (i+1) l)++_
   rw[h]
   by_cases hp:p i=true
   ·rw[if_pos hp,if_pos hp]
   ·rw[if_neg hp,if_neg hp,List.cons_append]
theorem ft:∀ (i:Nat) (l:List α),(∀ j,i<=j->j<i+l.length->p j=false)->cy p i l=l
 | _,[],_=>rfl
 | i,x::l,h=>by
   unfold cy
   rw[if_neg (by rw[h i FA (by rw[List.length_cons];omega)];decide),ft (i+1) l fun j h1 h2=>h j (by omega) (by rw[List.length_cons];omega)]
end
theorem um {z:List Value} (h:∀ v∈z,v.oneCell'=true) (hl:0<z.length) (n:Nat):∀ v∈(Builtin.zeroCells z.toArray n).toList,v.oneCell'=true:=by
 intro v hv
 simp only[Builtin.zeroCells,Array.toList_map,List.mem_map] at hv
 obtain⟨i,_,rfl⟩:=hv
 have hlt:i % z.toArray.size<z.toArray.size:=Nat.mod_lt _ (by simpa using hl)
 rw[getElem!_pos z.toArray _ hlt]
 exact h _ (by simp)
def cd (M:List (List Vl)) (k:Nat):Bool:=match k with
 | 0=>false
 | k+1=>match M[k+1]?,M[k]? with
   | some a,some b=>decide (aw a b=0)
   | _,_=>false
theorem iF {M:List (List Vl)} {k:Nat} {a b:List Vl} (h1:M[k+1]? = some a) (h2:M[k]? = some b):cd M (k+1)=decide (aw a b=0):=by
 show (match M[k+1]?,M[k]? with
  | some a,some b=>decide (aw a b=0)
  | _,_=>false)=_
 rw[h1,h2]
def lE:List Vl->List (List Vl)->List (List Vl)
 | _,[]=>[]
 | y,x::l=>if aw x y=0 then lE x l else x::lE x l
theorem pL:∀ (l pre:List (List Vl)) (y:List Vl),cy (cd (pre++y::l)) (pre.length+1) l=lE y l
 | [],_,_=>rfl
 | x::l,pre,y=>by
   have ih:=pL l (pre++[y]) x
   rw[List.length_append,List.length_singleton,show pre++[y]++x::l=pre++y::x::l by simp] at ih
   have h1:cd (pre++y::x::l) (pre.length+1)=decide (aw x y=0):=iF (by simp) (by simp)
   unfold cy
   rw[h1,ih]
   show _=if aw x y=0 then lE x l else x::lE x l
   by_cases h:aw x y=0
   ·rw[if_pos h,if_pos (by simpa using h)]
   ·rw[if_neg h,if_neg (by simpa using h)]
def E3 (l:List (List Vl)):Prop:=l.Pairwise fun x y=>¬ aw y x<0
theorem xh:∀ (l:List (List Vl)) (y:List Vl),E3 (y::l)->xu (y::lE y l)/\∀ z,z∈y::lE y l ↔ z∈y::l
 | [],y,_=>⟨by simp [lE,xu],fun _=>Iff.rfl⟩
 | x::l,y,h=>by
   have h1:=List.pairwise_cons.1 h
   obtain⟨ih1,ih2⟩:=xh l x h1.2
   have hxy:=h1.1 x List.mem_cons_self
   show xu (y::if aw x y=0 then lE x l else x::lE x l)/\∀ z,z∈y::(if aw x y=0 then lE x l else x::lE x l) ↔ _
   by_cases h0:aw x y=0
   ·rw[if_pos h0]
    have e:=iP _ _ h0
    subst e
    refine⟨ih1,fun z=>(ih2 z).trans ⟨fun q=>List.mem_cons_of_mem _ q,fun q=>?_⟩⟩
    rcases List.mem_cons.1 q with rfl | q
    ·exact List.mem_cons_self
    ·exact q
   ·rw[if_neg h0]
    have hlt:aw y x<0:=by
     have:=eB x y
     omega
    refine⟨List.pairwise_cons.2 ⟨fun z hz=>?_,ih1⟩,fun z=>?_⟩
    ·rcases List.mem_cons.1 hz with rfl | hz
     ·exact hlt
     ·exact dS _ _ _ hlt ((List.pairwise_cons.1 ih1).1 z hz)
    ·rw[List.mem_cons,ih2 z,List.mem_cons (a:=z) (b:=y)]
theorem rY {M l:List (List Vl)} (hs:E3 M) (hp:M.Perm l):cy (cd M) 0 M=dX l:=by
 cases M with
 | nil=>rw[List.nil_perm.1 hp];rfl
 | cons y m =>
   have h1:=pL m [] y
   have h2:=xh m y hs
   have h3:cy (cd (y::m)) 0 (y::m)=y::lE y m:=by
    rw[<-h1]
    show (if cd (y::m) 0 then _ else _)=_
    rw[if_neg (by simp [cd])]
    rfl
   rw[h3]
   exact Dc h2.1 fun z=>(h2.2 z).trans hp.mem_iff
