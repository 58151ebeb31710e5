/- The lines of a dump, one by one, plainly: -/
import Derived.Test.YtgopfpjinohncaaGreatDoorDlpZF
set_option linter.unusedVariables false
namespace Go.Proofs.YtgopfpjinohncaaGreatDoor
open Go.RowKit
theorem vR (l:List (List UInt8)) (x sep:List UInt8) (h:l≠[]):Lib.join (l++[x]) sep=Lib.join l sep++sep++x:=by
 cases l with
 | nil=>exact absurd rfl h
 | cons a r =>
   rw[List.cons_append,Lib.join_cons,Lib.join_cons]
   simp [Lib.joinTail]
def cI (x:List UInt8) (ch:List (List Vl)):List UInt8:=[98,97,116,99,104,32]++Lib.join (ch.map (bi x)) [44,32]
theorem kV (x:List UInt8) (r:List Vl):cI x [r]=[98,97,116,99,104,32]++bi x r:=by
 simp [cI,Lib.join]
theorem om {x:List UInt8} {ch:List (List Vl)} (r:List Vl) (h:ch≠[]):cI x (ch++[r])=cI x ch++[44,32]++bi x r:=by
 unfold cI
 rw[List.map_append,List.map_cons,List.map_nil,vR _ _ _ (by simpa using h)]
 simp
def tj (x:List UInt8) (a b:List (List Vl)):Prop:=a.length=256∨∃ r,b[0]? = some r/\16384<(cI x a).length+2+(bi x r).length
def AI (x:List UInt8) (l:List (List (List Vl))):Prop:=∀ (i:Nat) (a b:List (List Vl)),l[i]? = some a->l[i+1]? = some b->tj x a b
theorem AI.cons {x:List UInt8} {a:List (List Vl)} {l:List (List (List Vl))} (h:AI x l) (h0:∀ b,l[0]? = some b->tj x a b):AI x (a::l):=fun i c d hc hd=>by
 cases i with
 | zero =>
   simp at hc hd
   subst hc
   exact h0 d (by simpa using hd)
 | succ i=>exact h i c d (by simpa using hc) (by simpa using hd)
structure gT (x:List UInt8) (rs:List (List Vl)) (ch:List (List Vl)):Prop where
 some:ch≠[]
 few:ch.length<=256
 short:(cI x ch).length<=16384
 mem:∀ r∈ch,r∈rs
theorem rz (x:List UInt8) (all:List (List Vl)) (hw:∀ r∈all,(cI x [r]).length<=16384):∀ (rs cur:List (List Vl)),(∀ r∈rs,r∈all)->gT x all cur ->
 ∃ (ex:List (List Vl)) (rest:List (List (List Vl))),jr x (cI x cur) cur.length rs=((cur++ex)::rest).map (cI x)/\(∀ ch∈(cur++ex)::rest,gT x all ch)/\AI x ((cur++ex)::rest)
 | [],cur,_,hc=>by
   refine⟨[],[],?_,?_,?_⟩
   ·show (if 0<cur.length then [cI x cur] else [])=_
    rw[if_pos (List.length_pos_iff.2 hc.some)]
    simp
   ·intro ch h
    simp at h
    subst h
    exact hc
   ·intro i a b h1 h2
    simp at h2
 | r::rs,cur,hr,hc=>by
   have hpos:=List.length_pos_iff.2 hc.some
   have hr1:gT x all [r]:=⟨by simp,by simp,hw r (hr r List.mem_cons_self),fun y hy=>by
    simp at hy
    subst hy
    exact hr y List.mem_cons_self⟩
   show ∃ ex rest,(if cur.length=256∨(0<cur.length/\16384<(cI x cur).length+2+(bi x r).length) then cI x cur::jr x ([98,97,116,99,104,32]++bi x r) 1 rs
    else if cur.length=0 then jr x (cI x cur++[98,97,116,99,104,32]++bi x r) 1 rs
    else jr x (cI x cur++[44,32]++bi x r) (cur.length+1) rs)=_/\_
   by_cases h:cur.length=256∨(0<cur.length/\16384<(cI x cur).length+2+(bi x r).length)
   ·rw[if_pos h,<-kV]
    obtain⟨ex,rest,e1,e2,e3⟩:=rz x all hw rs [r] (fun y hy=>hr y (List.mem_cons_of_mem _ hy)) hr1
    have e1':jr x (cI x [r]) 1 rs=(([r]++ex)::rest).map (cI x):=e1
    rw[e1']
    refine⟨[],([r]++ex)::rest,by simp,?_,?_⟩
    ·intro ch hch
     rw[List.append_nil] at hch
     rcases List.mem_cons.1 hch with rfl | hch
     ·exact hc
     ·exact e2 ch hch
    ·rw[List.append_nil]
     refine e3.cons fun b hb=>?_
     simp at hb
     subst hb
     rcases h with h | h
     ·exact .inl h
     ·exact .inr ⟨r,by simp,h.2⟩
   ·rw[if_neg h,if_neg (by omega),<-om r hc.some]
    have hc2:gT x all (cur++[r]):=⟨by simp,by have:=hc.few;simp;omega,by
     rw[om r hc.some]
     simp only[List.length_append,List.length_cons,List.length_nil]
     omega,fun y hy=>by
     rcases List.mem_append.1 hy with hy | hy
     ·exact hc.mem y hy
     ·exact hr1.mem y hy⟩
    obtain⟨ex,rest,e1,e2,e3⟩:=rz x all hw rs (cur++[r]) (fun y hy=>hr y (List.mem_cons_of_mem _ hy)) hc2
    rw[List.length_append,List.length_cons,List.length_nil] at e1
    exact⟨r::ex,rest,by simpa using e1,by simpa using e2,by simpa using e3⟩
theorem u9 (x:List UInt8) (rs:List (List Vl)) (hw:∀ r∈rs,(cI x [r]).length<=16384) :
 ∃ chs:List (List (List Vl)),jr x [] 0 rs=chs.map (cI x)/\(∀ ch∈chs,gT x rs ch)/\AI x chs:=by
 cases rs with
 | nil=>exact⟨[],rfl,by simp,fun i a b h _=>by simp at h⟩
 | cons r rs =>
   have h0:=zh (x:=x) (rows:=r::rs) (k:=0) (r:=r) rfl
   simp only[List.drop_zero,Nat.zero_add,List.drop_succ_cons] at h0
   rw[h0,<-kV]
   obtain⟨ex,rest,e1,e2,e3⟩:=rz x (r::rs) hw rs [r] (fun y hy=>List.mem_cons_of_mem _ hy) ⟨by simp,by simp,hw r List.mem_cons_self,fun y hy=>by
    simp at hy
    subst hy
    exact List.mem_cons_self⟩
   exact⟨_,e1,e2,e3⟩
structure jT where
 rel:List UInt8
 ch:List (List Vl)
def jT.line (b:jT):List UInt8:=cI b.rel b.ch
structure DG (rels:List aU) (data:List eC) (l:List jT):Prop where
 eq:rels.flatMap (fun r=>jr r.name [] 0 (dX (aT r.name data)))=l.map jT.line
 each:∀ b∈l,(∃ r∈rels,r.name=b.rel)/\gT b.rel (dX (aT b.rel data)) b.ch
 adj:∀ (i:Nat) (a b:jT),l[i]? = some a->l[i+1]? = some b->a.rel=b.rel->tj b.rel a.ch b.ch
theorem zO (data:List eC):∀ (rels:List aU),(rels.map (·.name)).Nodup->(∀ r∈rels,∀ z∈dX (aT r.name data),(cI r.name [z]).length<=16384)->∃ l,DG rels data l
 | [],_,_=>⟨[],⟨rfl,by simp,fun i a b h _=>by simp at h⟩⟩
 | r::rels,hn,hw=>by
   rw[List.map_cons,List.nodup_cons] at hn
   obtain⟨l,h1,h2,h3⟩:=zO data rels hn.2 (fun q hq=>hw q (List.mem_cons_of_mem _ hq))
   obtain⟨chs,e1,e2,e3⟩:=u9 r.name (dX (aT r.name data)) (hw r List.mem_cons_self)
   refine⟨chs.map (fun c=>⟨r.name,c⟩)++l,?_,?_,?_⟩
   ·rw[List.flatMap_cons,h1,e1,List.map_append,List.map_map]
    rfl
   ·intro b hb
    rcases List.mem_append.1 hb with hb | hb
    ·obtain⟨c,hc,rfl⟩:=List.mem_map.1 hb
     exact⟨⟨r,List.mem_cons_self,rfl⟩,e2 c hc⟩
    ·obtain⟨⟨q,hq,hqe⟩,h4⟩:=h2 b hb
     exact⟨⟨q,List.mem_cons_of_mem _ hq,hqe⟩,h4⟩
   ·intro i a b ha hb hab
    have hlen:(chs.map (fun c=>(⟨r.name,c⟩:jT))).length=chs.length:=List.length_map ..
    rcases Nat.lt_or_ge (i+1) chs.length with hlt | hge
    ·rw[List.getElem?_append_left (by omega),List.getElem?_map] at ha hb
     obtain⟨ca,hca,rfl⟩:=Option.map_eq_some_iff.1 ha
     obtain⟨cb,hcb,rfl⟩:=Option.map_eq_some_iff.1 hb
     exact e3 i ca cb hca hcb
    ·rw[List.getElem?_append_right (by omega),hlen] at hb
     rcases Nat.lt_or_ge i chs.length with hlt | hge2
     ·rw[List.getElem?_append_left (by omega),List.getElem?_map] at ha
      obtain⟨ca,hca,rfl⟩:=Option.map_eq_some_iff.1 ha
      obtain⟨⟨q,hq,hqe⟩,_⟩:=h2 b (FC hb)
      exfalso
      refine hn.1 (List.mem_map.2 ⟨q,hq,?_⟩)
      rw[hqe]
      exact hab.symm
     ·rw[List.getElem?_append_right (by omega),hlen] at ha
      refine h3 (i - chs.length) a b ha ?_ hab
      rw[<-hb]
      congr 1
      omega
theorem lI:∀ (l pre:List aU),fF pre l=0->(l.map (·.name)).Nodup/\∀ r∈l,∀ s∈pre,s.name≠r.name
 | [],_,_=>⟨List.nodup_nil,by simp⟩
 | r::l,pre,h=>by
   unfold fF at h
   rw[Eo] at h
   by_cases hp:pre.any (fun s=>s.name == r.name)=true
   ·rw[if_pos hp] at h
    exact absurd h.2 (by decide)
   ·rw[if_neg hp] at h
    obtain⟨h1,h2⟩:=lI l (pre++[r]) h.2
    refine⟨?_,?_⟩
    ·rw[List.map_cons,List.nodup_cons]
     refine⟨fun hm=>?_,h1⟩
     obtain⟨q,hq,hqe⟩:=List.mem_map.1 hm
     exact h2 q hq r (by simp) hqe.symm
    ·intro q hq s hs e
     rcases List.mem_cons.1 hq with rfl | hq
     ·exact hp (List.any_eq_true.2 ⟨s,hs,by simpa using e⟩)
     ·exact h2 q hq s (List.mem_append_left _ hs) e
theorem BK {rels:List aU} {data:List eC} {qs:List cf} (h:hO rels data qs=0) (hB:∀ t∈data,gk t.rows):∃ l,DG rels data l/\fV rels data qs=rels.map cE++l.map jT.line++qs.map bL:=by
 obtain⟨l,hl⟩:=zO data rels (lI rels [] (fk h).1).1 (fun r hr z hz=>by
  rw[kV]
  have h2:=bg (eM (eT rels [] (fk h).1 r hr)).1
  rw[ie,gO] at hz
  obtain⟨t,ht,_,hz⟩:=hz
  have h3:=jg rels data (fk h).2.1 t ht z hz
  have h4:=(gb h3 (hB t ht z hz)).2
  have h5:bW z=cz z:=by unfold bW;rw[if_pos h3]
  unfold bi
  rw[h5]
  simp only[List.length_append,List.length_cons,List.length_nil]
  omega)
 exact⟨l,hl,by rw[pi,hl.eq]⟩
def C6 (r:aU):mf := { eD with kind:=1,rel:=r }
def wC (q:cf):mf := { eD with kind:=2,q:=q }
def jT.chgs (b:jT):List eP:=b.ch.map fun r=>⟨true,b.rel,r⟩
def Ck (b:jT):mf := { eD with kind:=4,b:=b.chgs }
structure wJ (s:List UInt8) (c:mf):Prop where
 good:(∃ r:aU,c=C6 r/\s=cE r/\cr r.name r.cols=0)∨(∃ q:cf,c=wC q/\s=bL q/\fQ q=0/\iG q)∨∃ b:jT,c=Ck b/\s=b.line/\ai b.rel=true/\b.ch≠[]/\b.ch.length<=256/\∀ r∈b.ch,dj r=true/\∀ u∈r,bG u
 some:1<=s.length
 len:s.length<=16384
theorem pd {nm:List UInt8} {cs:List bd} (h:cr nm cs=0):1<=(ct nm cs).length/\(ct nm cs).length<=200:=by
 obtain⟨h1,h2,h3,h4⟩:=eM h
 have hn:=jB h1
 have hj:=iy (b:=21) (cs.map eh) (fun x hx=>by
  obtain⟨c,hc,rfl⟩:=List.mem_map.1 hx
  have:=jB (h2 c hc).1
  unfold eh bM
  simp only[List.length_append,List.length_cons,List.length_nil]
  split<;>simp<;>omega)
 rw[List.length_map] at hj
 unfold ct
 rw[if_pos h]
 simp only[List.length_append,List.length_cons,List.length_nil]
 omega
theorem CP {r:aU} (h:cr r.name r.cols=0):wJ (cE r) (C6 r):=by
 have h1:=pd h
 refine⟨.inl ⟨r,rfl,rfl,h⟩,?_,?_⟩
 ·rw[iN h];simp
 ·rw[iN h];simp only[List.length_append,List.length_cons,List.length_nil];omega
theorem iG.rng {q:cf} (hb:iG q):fq q:=fun a ha t ht=>((hb.each a ha).2 t ht).1
theorem Ar {q:cf} (h:fQ q=0) (hb:iG q):wJ (bL q) (wC q):=by
 have h1:=qJ (cD h) hb.rng
 have h2:=bg (cD h).name
 refine⟨.inr (.inl ⟨q,rfl,rfl,h,hb⟩),?_,?_⟩
 ·rw[gN h];simp
 ·rw[gN h]
  unfold gv
  rw[if_pos h]
  unfold qT
  simp only[List.length_append,List.length_cons,List.length_nil]
  omega
theorem xH {x:List UInt8} {r:List Vl} (h:dj r=true):cG ⟨true,x,r⟩=bi x r:=by
 unfold cG bi bW
 rw[if_pos h,if_pos rfl]
theorem xE {b:jT} (h:∀ r∈b.ch,dj r=true):b.chgs.map cG=b.ch.map (bi b.rel):=by
 unfold jT.chgs
 rw[List.map_map]
 exact List.map_congr_left fun r hr=>xH (h r hr)
theorem pj {b:jT} (hn:ai b.rel=true) (h:∀ r∈b.ch,dj r=true):∀ c∈b.chgs,eu c=true:=by
 intro c hc
 obtain⟨r,hr,rfl⟩:=List.mem_map.1 hc
 unfold eu
 rw[hn,h r hr]
 rfl
theorem rR {b:jT} (h:∀ r∈b.ch,dj r=true):b.line=[98,97,116,99,104,32]++Lib.join (b.chgs.map cG) [44,32]:=by
 rw[xE h]
 rfl
theorem CS {rels:List aU} {data:List eC} {b:jT} (hR:fF [] rels=0) (hT:fE rels data=0) (bT:∀ t∈data,gk t.rows) (hr:∃ r∈rels,r.name=b.rel) (h:gT b.rel (dX (aT b.rel data)) b.ch):wJ b.line (Ck b)/\∀ r∈b.ch,dj r=true/\∀ u∈r,bG u:=by
 obtain⟨r,hr,hx⟩:=hr
 have hn:ai b.rel=true:=hx ▸ (eM (eT rels [] hR r hr)).1
 have hrow:∀ z∈b.ch,dj z=true/\∀ u∈z,bG u:=fun z hz=>by
  have hz:=h.mem z hz
  rw[ie,gO] at hz
  obtain⟨t,ht,_,hz⟩:=hz
  exact⟨jg rels data hT t ht z hz,bT t ht z hz⟩
 exact⟨⟨.inr (.inr ⟨b,rfl,rfl,hn,h.some,h.few,hrow⟩),by unfold jT.line cI;simp,h.short⟩,hrow⟩
structure AQ (rels:List aU) (qs:List cf) (l:List jT) (LS:List (List UInt8)):Prop where
 len:LS.length=rels.length+l.length+qs.length
 rel:∀ (k:Nat) (r:aU),rels[k]? = some r->LS[k]? = some (cE r)/\wJ (cE r) (C6 r)
 bat:∀ (k:Nat) (b:jT),l[k]? = some b->LS[rels.length+k]? = some b.line/\wJ b.line (Ck b)/\b.ch≠[]/\∀ r∈b.ch,dj r=true/\∀ u∈r,bG u
 view:∀ (k:Nat) (q:cf),qs[k]? = some q->LS[rels.length+l.length+k]? = some (bL q)/\wJ (bL q) (wC q)
 adj:∀ (i:Nat) (a b:jT),l[i]? = some a->l[i+1]? = some b->a.rel=b.rel->tj b.rel a.ch b.ch
theorem xW {rels:List aU} {data:List eC} {qs:List cf} (h:hO rels data qs=0) (bT:∀ t∈data,gk t.rows) (bQ:∀ q∈qs,iG q):∃ l,AQ rels qs l (fV rels data qs):=by
 obtain⟨l,hl,he⟩:=BK h bT
 have h3:=fk h
 refine⟨l,?_,?_,?_,?_,hl.adj⟩
 ·rw[he]
  simp only[List.length_append,List.length_map]
 ·intro k r hk
  have hkl:=(FE hk).1
  refine⟨?_,CP (eT rels [] h3.1 r (FC hk))⟩
  rw[he,List.append_assoc,List.getElem?_append_left (by simpa using hkl),List.getElem?_map,hk]
  rfl
 ·intro k b hk
  have hkl:=(FE hk).1
  obtain⟨h4,h5⟩:=hl.each b (FC hk)
  obtain⟨h6,h7⟩:=CS h3.1 h3.2.1 bT h4 h5
  refine⟨?_,h6,h5.some,h7⟩
  rw[he,List.append_assoc,List.getElem?_append_right (by simp),List.getElem?_append_left (by simpa using hkl),List.getElem?_map,List.length_map,Nat.add_sub_cancel_left,hk]
  rfl
 ·intro k q hk
  refine⟨?_,Ar (kW qs [] h3.2.2 q (FC hk)) (bQ q (FC hk))⟩
  rw[he,List.getElem?_append_right (by simp),List.length_append,List.length_map,List.length_map,Nat.add_sub_cancel_left,List.getElem?_map,hk]
  rfl
