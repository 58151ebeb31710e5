/- Texts that are cut into tokens and read back: -/
import Derived.Test.YtgopfpjinohncaaGreatDoorLfF
import Derived.Test.YtgopfpjinohncaaGreatDoorGmF
set_option linter.unusedVariables false
namespace Go.Proofs.YtgopfpjinohncaaGreatDoor
open Go.RowKit
def LZ (r:List UInt8) (p:Nat) (ts:List ak):Prop:=LX r p=⟨ts,0,0⟩
def kM (x:List UInt8) (p:Nat):ak:=⟨1,x,0,0,[],p⟩
def fG (x:List UInt8) (p:Nat):ak:=⟨3,x,0,0,[],p⟩
def hU (y:List UInt8):Prop:=(aR (bt y 0) || au (bt y 0))=false
theorem vA (p:Nat):LZ [] p [aF p]:=eG (.inl rfl)
theorem nS {y:List UInt8} {p:Nat} {ts:List ak} (h:LZ y (p+1) ts):LZ (32::y) p ts:=by
 unfold LZ at h ⊢
 rw[dz (by simp [bt]) (by simp [bt,fZ])]
 simpa using h
theorem kR {x y:List UInt8} {p:Nat} {ts:List ak} {t:ak} (ho:aA (x++y) p=(t,0)) (hx:t.x=x) (hne:x≠[]) (h35:bt x 0≠35) (hsp:fZ (bt x 0)=false) (h:LZ y (p+x.length) ts):LZ (x++y) p (t::ts):=by
 unfold LZ at h ⊢
 rw[gE (fJ hne h35) (by rw[em hne];exact hsp) (by rw[ho]),ho]
 simp only[hx,List.drop_left]
 rw[h]
 simp
theorem pZ {x y:List UInt8} {p:Nat} {ts:List ak} (hx:ai x=true) (hy:hU y) (h:LZ y (p+x.length) ts):LZ (x++y) p (kM x p::ts):=by
 unfold ai at hx
 simp only[decide_eq_true_eq] at hx
 obtain⟨h1,h2,h3,h4⟩:=hx
 have hb:∀ c:Int,aR c=true->c≠35/\fZ c=false/\c≠58/\c≠34/\au c=false/\c≠45/\c≠40/\c≠41/\c≠44/\c≠43:=by
  intro c hc
  unfold aR at hc
  unfold fZ au
  simp only[decide_eq_true_eq,decide_eq_false_iff_not] at hc ⊢
  omega
 obtain⟨c1,c2,c3,c4,c5,c6,c7,c8,c9,c10⟩:=hb _ h2
 have hr:ap (x++y)=x.length:=iw (x:=x) (y:=y) (rest:=[]) (by rw[List.append_nil];exact h3) (fun e=>by unfold hU at hy;rw[hy] at e;cases e)
 have ho:aA (x++y) p=(kM x p,0):=by
  have b0:=em (y:=y) h1
  unfold aA
  rw[b0,if_neg c3,if_neg (by rw[c5];simp [c4,c6]),if_neg (by simp [c6,c7,c8,c9,c10]),if_pos h2,if_neg (by omega),hr,List.take_left]
  rfl
 exact kR ho rfl h1 c1 c2 h
theorem tI {c:UInt8} {y:List UInt8} {p:Nat} {ts:List ak} (hc:c=40∨c=41∨c=44) (h:LZ y (p+1) ts):LZ (c::y) p (fG [c] p::ts):=by
 have ho:aA ([c]++y) p=(fG [c] p,0):=by
  rcases hc with rfl | rfl | rfl<;>simp [aA,bt,au,fG]
 refine kR (x:=[c]) ho rfl (by simp) ?_ ?_ h
 ·rcases hc with rfl | rfl | rfl<;>simp [bt]
 ·rcases hc with rfl | rfl | rfl<;>simp [bt,fZ]
theorem Dr {y:List UInt8} {p:Nat} {ts:List ak} (h:LZ y (p+2) ts):LZ (58::45::y) p (fG [58,45] p::ts):=by
 have ho:aA ([58,45]++y) p=(fG [58,45] p,0):=by simp [aA,bt,fG]
 exact kR (x:=[58,45]) ho rfl (by simp) (by simp [bt]) (by simp [bt,fZ]) h
theorem uA {k n:Int} {t:List UInt8} (h:ax k n t=true) (h0 : -9223372036854775808<=n) (h1:n<=9223372036854775807):aD (aW k n t) 0=⟨k,n,t,(aW k n t).length,0⟩/\aW k n t≠[]/\(bt (aW k n t) 0=34∨au (bt (aW k n t) 0)=true∨bt (aW k n t) 0=45/\au (bt (aW k n t) 1)=true/\2<=(aW k n t).length):=by
 unfold aW
 rw[if_pos h]
 simp only[ax,decide_eq_true_eq] at h
 rcases h with ⟨rfl,rfl⟩ | ⟨rfl,rfl,ht⟩
 ·rw[if_pos rfl]
  refine⟨xR n h0 h1,?_,?_⟩
  ·rcases gG n with ⟨u,_,e⟩ | ⟨u,_,_,e⟩
   ·rw[e];exact gS u
   ·rw[e];simp
  ·have hn:=(ug n).2.2.1
   unfold d7 at hn
   simp only[decide_eq_true_eq] at hn
   rcases hn with ⟨_,h2⟩ | ⟨h1,h2,h3⟩
   ·exact .inr (.inl h2)
   ·exact .inr (.inr ⟨h2,h3,h1⟩)
 ·rw[if_neg (by decide)]
  refine⟨?_,by simp,.inl (by simp [bt])⟩
  rw[vw]
  unfold df
  rw[oT]
  simp only
  rw[if_neg (by omega)]
  simp only[List.length_cons,List.length_append,List.length_nil]
  congr 1
  omega
theorem Bq {k n:Int} {t y:List UInt8} {p:Nat} {ts:List ak} (hv:ax k n t=true) (h0 : -9223372036854775808<=n) (h1:n<=9223372036854775807) (hy:hU y) (h:LZ y (p+(aW k n t).length) ts):LZ (aW k n t++y) p (⟨2,aW k n t,k,n,t,p⟩::ts):=by
 obtain⟨e1,e2,e3⟩:=uA hv h0 h1
 have hd:au (bt y 0)=false:=by
  unfold hU at hy
  cases hd:au (bt y 0) with
  | false=>rfl
  | true=>rw[hd] at hy;simp at hy
 generalize aW k n t=S at *
 have hst:=(lK (r:=S) (x:=S) (rest:=[]) (y:=y) (by simp) e2 (by rw[e1]) (by rw[e1]) (fun e=>by rw[hd] at e;cases e)).1
 rw[e1] at hst
 have b0:=em (y:=y) e2
 have hl:ey (S++y) p=(⟨2,S,k,n,t,p⟩,0):=by
  unfold ey
  rw[hst,if_pos rfl]
  simp
 have h58:bt (S++y) 0≠58:=by
  rw[b0]
  rcases e3 with e | e | ⟨e,_⟩
  ·omega
  ·intro e'
   rw[e'] at e
   simp [au] at e
  ·omega
 have hq:bt (S++y) 0=34∨au (bt (S++y) 0)=true∨bt (S++y) 0=45/\au (bt (S++y) 1)=true:=by
  rw[b0]
  rcases e3 with e | e | ⟨e,e',e''⟩
  ·exact .inl e
  ·exact .inr (.inl e)
  ·refine .inr (.inr ⟨e,?_⟩)
   have:bt (S++y) 1=bt S 1:=by
    match S,e'' with
    | a::b::l,_=>simp [bt]
   rw[this]
   exact e'
 have ho:aA (S++y) p=(⟨2,S,k,n,t,p⟩,0):=by
  unfold aA
  rw[if_neg h58,if_pos hq]
  exact hl
 refine kR ho rfl e2 ?_ ?_ h
 ·rcases e3 with e | e | ⟨e,_⟩
  ·omega
  ·intro e'
   rw[e'] at e
   simp [au] at e
  ·omega
 ·rcases e3 with e | e | ⟨e,_⟩
  ·rw[e];rfl
  ·unfold au at e
   unfold fZ
   simp only[decide_eq_true_eq,decide_eq_false_iff_not] at e ⊢
   omega
  ·rw[e];rfl
section
variable {α β : Type}
def ig (P:List ak->PR β) (C:β->α) (T:α->List UInt8) (x:α):Prop :=
 ∀ (y:List UInt8) (p:Nat) (ts:List ak),hU y->LZ y (p+(T x).length) ts->∃ (pre:List ak) (z:β),LZ (T x++y) p pre/\P pre=.ok z ts/\C z=x/\cV [41] pre=false
theorem sN {l:List (List UInt8)} {y:List UInt8} (hy:hU y):hU (Lib.joinTail [44,32] l++y):=by
 cases l with
 | nil=>simpa [Lib.joinTail] using hy
 | cons d r=>simp [hU,Lib.joinTail,bt,aR,au]
theorem nB {P:List ak->PR β} {C:β->α} {T:α->List UInt8} (hl:dp P):∀ (xs:List α) (y:List UInt8) (p:Nat) (ts:List ak),(∀ x∈xs,ig P C T x)->hU y->cV [44] ts=false->LZ y (p+(Lib.joinTail [44,32] (xs.map T)).length) ts ->
 ∃ (toks:List ak) (zs:List β),LZ (Lib.joinTail [44,32] (xs.map T)++y) p toks/\zs.map C=xs/\∀ ys,bz P ys toks=.ok (ys++zs) ts
 | [],y,p,ts,_,hy,hm,h=>⟨ts,[],by simpa [Lib.joinTail] using h,rfl,fun ys=>by rw[cY ys hm,List.append_nil]⟩
 | x::xs,y,p,ts,hr,hy,hm,h=>by
   have e:Lib.joinTail [44,32] ((x::xs).map T)++y=44::32::(T x++(Lib.joinTail [44,32] (xs.map T)++y)):=by
    simp [Lib.joinTail]
   have hlen:(Lib.joinTail [44,32] ((x::xs).map T)).length=1+1+(T x).length+(Lib.joinTail [44,32] (xs.map T)).length:=by
    simp [Lib.joinTail]
    omega
   obtain⟨toks,zs,k1,k2,k3⟩:=nB hl xs y (p+1+1+(T x).length) ts (fun z hz=>hr z (List.mem_cons_of_mem _ hz)) hy hm (by rw[hlen] at h;rw[show p+1+1+(T x).length+(Lib.joinTail [44,32] (xs.map T)).length=p+(1+1+(T x).length+(Lib.joinTail [44,32] (xs.map T)).length) by omega];exact h)
   obtain⟨pre,z,j1,j2,j3,_⟩:=hr x List.mem_cons_self _ (p+1+1) toks (sN hy) k1
   refine⟨fG [44] p::pre,z::zs,?_,by rw[List.map_cons,j3,k2],fun ys=>?_⟩
   ·rw[e]
    exact tI (.inr (.inr rfl)) (nS j1)
   ·have:=dQ hl ys (c:=fG [44] p::pre) (c1:=toks) (x:=z) (by simp [cV,fG]) (by simpa using j2)
    rw[this.1,k3]
    simp
theorem jA {P:List ak->PR β} {C:β->α} {T:α->List UInt8} (hl:dp P) (x:α) (xs:List α) (y:List UInt8) (p:Nat) (ts:List ak) (hr:∀ z∈x::xs,ig P C T z) (hy:hU y) (hm:cV [44] ts=false) (h:LZ y (p+(Lib.join ((x::xs).map T) [44,32]).length) ts) :
 ∃ (toks:List ak) (zs:List β),LZ (Lib.join ((x::xs).map T) [44,32]++y) p toks/\zs.map C=x::xs/\aQ P toks=.ok zs ts/\cV [41] toks=false:=by
 rw[List.map_cons,Lib.join_cons] at h ⊢
 rw[List.length_append,<-Nat.add_assoc] at h
 obtain⟨toks,zs,k1,k2,k3⟩:=nB hl xs y (p+(T x).length) ts (fun z hz=>hr z (List.mem_cons_of_mem _ hz)) hy hm h
 obtain⟨pre,z,j1,j2,j3,j4⟩:=hr x List.mem_cons_self _ p toks (sN hy) k1
 refine⟨pre,z::zs,?_,by rw[List.map_cons,j3,k2],?_,j4⟩
 ·rw[List.append_assoc]
  exact j1
 ·rw[ek j2,k3]
  rfl
theorem jF {P:List ak->PR β} {C:β->α} {T:α->List UInt8} (hl:dp P) (xs:List α) (y:List UInt8) (p:Nat) (ts:List ak) (hr:∀ z∈xs,ig P C T z) (h:LZ y (p+1+(Lib.join (xs.map T) [44,32]).length+1) ts) :
 ∃ (toks:List ak) (zs:List β),LZ (40::(Lib.join (xs.map T) [44,32]++41::y)) p (fG [40] p::toks)/\zs.map C=xs/\aJ P (fG [40] p::toks)=.ok zs ts:=by
 have e1:∀ r,tk 3 [[40]] (fG [40] p::r)=.ok (fG [40] p) r:=fun r=>by simp [tk,fG]
 cases xs with
 | nil =>
   refine⟨fG [41] (p+1)::ts,[],?_,rfl,?_⟩
   ·rw[List.map_nil,Lib.join_nil] at h ⊢
    exact tI (.inl rfl) (tI (.inr (.inl rfl)) h)
   ·have:=eY (P:=P) (e1 (fG [41] (p+1)::ts)) (by simp [cV,fG])
    simpa using this
 | cons x xs =>
   obtain⟨toks,zs,k1,k2,k3,k4⟩:=jA hl x xs (41::y) (p+1) (fG [41] (p+1+(Lib.join ((x::xs).map T) [44,32]).length)::ts) hr (by simp [hU,bt,aR,au]) (by simp [cV,fG]) (tI (.inr (.inl rfl)) h)
   refine⟨toks,zs,tI (.inl rfl) k1,k2,?_⟩
   exact iL (u:=fG [41] (p+1+(Lib.join ((x::xs).map T) [44,32]).length)) (e1 toks) k4 k3 (by simp [tk,fG])
end
def eI (t:dd):Bool:=if t.x=[] then !ax t.k t.n t.t else decide (t.vl≠⟨0,0,[]⟩)
def bI (t:dd):Bool:=decide (t.x≠[]) && !ai t.x
def eH (a:eb):Bool := !ai a.rel || a.ts.any bI
def lN (q:cf):Bool:=(!ai q.name || q.head.any fun h => !ai h) || q.atoms.any eH
def gX (a:eb):Bool:=decide (5<a.ts.length)
def fQ (q:cf):Int :=
 if lN q=true then 72 else if (q.atoms.any fun a=>a.ts.any eI)=true then 21 else if q.atoms.length=0∨6<q.atoms.length then 90 else if q.atoms.any gX=true then 91 else if 0<=fA q.head then 92 else if 0<=cj (cg q.atoms) q.head then 93 else 0
def kN (t:dd):List UInt8:=if t.x=[] then aW t.k t.n t.t else t.x
def lA (a:eb):List UInt8:=a.rel++40::(Lib.join (a.ts.map kN) [44,32]++[41])
def qT (q:cf):List UInt8:=q.name++40::(Lib.join (q.head.map id) [44,32]++41::32::58::45::32::Lib.join (q.atoms.map lA) [44,32])
def gv (q:cf):List UInt8:=if fQ q=0 then qT q else []
def fq (q:cf):Prop:=∀ a∈q.atoms,∀ t∈a.ts,-9223372036854775808<=t.n/\t.n<=9223372036854775807
structure ed (q:cf):Prop where
 name:ai q.name=true
 head:∀ h∈q.head,ai h=true
 rel:∀ a∈q.atoms,ai a.rel=true
 var:∀ a∈q.atoms,∀ t∈a.ts,t.x≠[]->ai t.x=true/\t.vl=⟨0,0,[]⟩
 lit:∀ a∈q.atoms,∀ t∈a.ts,t.x=[]->ax t.k t.n t.t=true
 some:q.atoms≠[]
 few:q.atoms.length<=6
 thin:∀ a∈q.atoms,a.ts.length<=5
 dup:¬ 0<=fA q.head
 lack:¬ 0<=cj (cg q.atoms) q.head
theorem cD {q:cf} (h:fQ q=0):ed q:=by
 unfold fQ at h
 split at h
 ·cases h
 rename_i h1
 split at h
 ·cases h
 rename_i h2
 split at h
 ·cases h
 rename_i h3
 split at h
 ·cases h
 rename_i h4
 split at h
 ·cases h
 rename_i h5
 split at h
 ·cases h
 rename_i h6
 have n1:lN q=false:=by simpa using h1
 unfold lN at n1
 rw[Bool.or_eq_false_iff,Bool.or_eq_false_iff] at n1
 obtain⟨⟨n2,n3⟩,n4⟩:=n1
 have t1:(q.atoms.any fun a=>a.ts.any eI)=false:=by simpa using h2
 have w1:q.atoms.any gX=false:=by simpa using h4
 have hA:∀ a∈q.atoms,ai a.rel=true/\∀ t∈a.ts,bI t=false:=fun a ha=>by
  have:=List.any_eq_false.1 n4 a ha
  have e:eH a=false:=by simpa using this
  unfold eH at e
  rw[Bool.or_eq_false_iff] at e
  refine⟨by simpa using e.1,fun t ht=>?_⟩
  have:=List.any_eq_false.1 e.2 t ht
  simpa using this
 have hT:∀ a∈q.atoms,∀ t∈a.ts,eI t=false:=fun a ha t ht=>by
  have:=List.any_eq_false.1 t1 a ha
  have e:a.ts.any eI=false:=by simpa using this
  have:=List.any_eq_false.1 e t ht
  simpa using this
 refine⟨by simpa using n2,fun h hh=>?_,fun a ha=>(hA a ha).1,fun a ha t ht hx=>⟨?_,?_⟩,fun a ha t ht hx=>?_,fun e=>h3 (.inl (by rw[e];rfl)),by omega,fun a ha=>?_,h5,h6⟩
 ·have:=List.any_eq_false.1 n3 h hh
  simpa using this
 ·have:=(hA a ha).2 t ht
  unfold bI at this
  rw[Bool.and_eq_false_iff] at this
  rcases this with e | e
  ·simp at e;exact absurd e hx
  ·simpa using e
 ·have:=hT a ha t ht
  unfold eI at this
  rw[if_neg hx] at this
  simpa using this
 ·have:=hT a ha t ht
  unfold eI at this
  rw[if_pos hx] at this
  simpa using this
 ·have:=List.any_eq_false.1 w1 a ha
  unfold gX at this
  simpa using this
theorem vL {q:cf} (h:ed q):fQ q=0:=by
 have hA:∀ a∈q.atoms,eH a=false:=fun a ha=>by
  unfold eH
  rw[h.rel a ha]
  simp only[Bool.not_true,Bool.false_or]
  refine List.any_eq_false.2 fun t ht=>?_
  unfold bI
  by_cases hx:t.x=[]
  ·simp [hx]
  ·rw[(h.var a ha t ht hx).1]
   simp
 have hN:lN q=false:=by
  unfold lN
  rw[h.name]
  simp only[Bool.not_true,Bool.false_or,Bool.or_eq_false_iff]
  refine⟨List.any_eq_false.2 fun x hx=>by rw[h.head x hx];decide,List.any_eq_false.2 fun a ha=>by rw[hA a ha];decide⟩
 have hT:(q.atoms.any fun a=>a.ts.any eI)=false:=List.any_eq_false.2 fun a ha=>by
  have:a.ts.any eI=false:=List.any_eq_false.2 fun t ht=>by
   unfold eI
   by_cases hx:t.x=[]
   ·rw[if_pos hx,h.lit a ha t ht hx]
    decide
   ·rw[if_neg hx,(h.var a ha t ht hx).2]
    decide
  rw[this]
  decide
 have hW:q.atoms.any gX=false:=List.any_eq_false.2 fun a ha=>by
  unfold gX
  have:=h.thin a ha
  simp
  omega
 have h0:¬ (q.atoms.length=0∨6<q.atoms.length):=by
  rintro (e | e)
  ·exact h.some (List.length_eq_zero_iff.1 e)
  ·have:=h.few
   omega
 unfold fQ
 rw[if_neg (by rw[hN];decide),if_neg (by rw[hT];decide),if_neg h0,if_neg (by rw[hW];decide),if_neg h.dup,if_neg h.lack]
theorem vu {h:List UInt8} (hn:ai h=true):ig aY (fun z:List UInt8 × Int=>z.1) id h:=by
 intro y p ts hy hl
 refine⟨kM h p::ts,(h,p),pZ hn hy hl,?_,rfl,by simp [cV,kM]⟩
 unfold aY
 simp [tk,kM]
theorem vU {t:dd} (hv:t.x≠[]->ai t.x=true/\t.vl=⟨0,0,[]⟩) (hlt:t.x=[]->ax t.k t.n t.t=true) (h0 : -9223372036854775808<=t.n) (h1:t.n<=9223372036854775807):ig bK (fun z:dd × Int=>z.1) kN t:=by
 obtain⟨x,k,n,s⟩:=t
 intro y p ts hy hl
 by_cases hx:x=[]
 ·subst hx
  have hvv:=hlt rfl
  unfold kN at hl ⊢
  simp only[if_true] at hl ⊢
  refine⟨⟨2,aW k n s,k,n,s,p⟩::ts,(⟨[],k,n,s⟩,p),Bq hvv h0 h1 hy hl,?_,rfl,by simp [cV]⟩
  unfold bK
  simp [kQ,tk]
 ·obtain⟨h2,h3⟩:=hv hx
  unfold kN at hl ⊢
  simp only[hx,if_false] at hl ⊢
  simp only[dd.vl,Vl.mk.injEq] at h3
  obtain⟨rfl,rfl,rfl⟩:=h3
  refine⟨kM x p::ts,(⟨x,0,0,[]⟩,p),pZ h2 hy hl,?_,rfl,by simp [cV,kM]⟩
  unfold bK
  simp [kQ,tk,kM]
theorem uU {a:eb} (hr:ai a.rel=true) (ht:∀ t∈a.ts,ig bK (fun z:dd × Int=>z.1) kN t):ig bS cH lA a:=by
 intro y p ts hy hl
 have e:lA a++y=a.rel++(40::(Lib.join (a.ts.map kN) [44,32]++41::y)):=by simp [lA]
 have hlen:(lA a).length=a.rel.length+1+(Lib.join (a.ts.map kN) [44,32]).length+1:=by
  simp [lA]
  omega
 rw[hlen] at hl
 obtain⟨toks,zs,k1,k2,k3⟩:=jF gn a.ts y (p+a.rel.length) ts ht (by rw[show p+a.rel.length+1+(Lib.join (a.ts.map kN) [44,32]).length+1=p+(a.rel.length+1+(Lib.join (a.ts.map kN) [44,32]).length+1) by omega];exact hl)
 have hw:=pZ (p:=p) hr (by simp [hU,bt,aR,au]) k1
 have hn:aY (kM a.rel p::fG [40] (p+a.rel.length)::toks)=.ok (a.rel,(p:Int)) (fG [40] (p+a.rel.length)::toks):=by
  unfold aY
  simp [tk,kM]
 have hp:bS (kM a.rel p::fG [40] (p+a.rel.length)::toks)=.ok ((a.rel,(p:Int)),zs) ts:=by
  unfold bS
  rw[hn]
  simp only[k3]
 refine⟨_,((a.rel,(p:Int)),zs),?_,hp,?_,by simp [cV,kM]⟩
 ·rw[e]
  exact hw
 ·simp only[cH]
  rw[k2]
theorem qd:∀ (l m:List (List UInt8)),l.Nodup->(∀ x∈l,x∈m)->l.length<=m.length
 | [],m,_,_=>Nat.zero_le _
 | x::l,m,hn,hs=>by
   have hx:=hs x List.mem_cons_self
   have h1:=List.nodup_cons.1 hn
   have h2:=qd l (m.erase x) h1.2 (fun y hy=>(List.mem_erase_of_ne (fun (e:y=x)=>h1.1 (by rw[<-e];exact hy))).2 (hs y (List.mem_cons_of_mem _ hy)))
   have h3:=List.length_erase_of_mem hx
   have h4:=List.length_pos_of_mem hx
   rw[List.length_cons]
   omega
theorem pP:∀ (l seen:List (List UInt8)) (i:Nat),¬ 0<=gw seen l i->l.Nodup/\∀ x∈l,x ∉ seen
 | [],seen,i,_=>⟨List.nodup_nil,by simp⟩
 | x::l,seen,i,h=>by
   unfold gw at h
   split at h
   ·exact absurd (Int.natCast_nonneg i) h
   ·rename_i hx
    obtain⟨h1,h2⟩:=pP l _ _ h
    refine⟨List.nodup_cons.2 ⟨fun hm=>h2 x hm (by simp),h1⟩,fun y hy=>?_⟩
    rcases List.mem_cons.1 hy with rfl | hy
    ·exact hx
    ·exact fun hm=>h2 y hy (by simp [hm])
theorem By {V l:List (List UInt8)} (h:¬ 0<=cj V l):∀ s∈l,s∈V:=by
 intro s hs
 by_cases hm:s∈V
 ·exact hm
 ·exfalso
  apply h
  unfold cj hC
  cases hf:(l.map bO).findIdx? (fun x=>match x with
   | [.string b] => !decide (b.data.toList∈V)
   | _=>false) with
  | none =>
    rw[List.findIdx?_eq_none_iff] at hf
    have:=hf (bO s) (List.mem_map.2 ⟨s,hs,rfl⟩)
    simp [bO,hm] at this
  | some i=>exact Int.natCast_nonneg i
theorem rM (q:cf):(cg q.atoms).length<=fD q.atoms:=by
 have:∀ (al:List eb) (o:List (List UInt8)),(al.foldl (fun o a=>(bU a.ts).foldl f9 o) o).length<=o.length+fD al:=by
  intro al
  induction al with
  | nil=>intro o;simp
  | cons a al ih =>
    intro o
    have h1:=ih ((bU a.ts).foldl f9 o)
    have h2:=kP f9 nk o (bU a.ts)
    have h3:=gQ a.ts
    simp only[List.foldl_cons,fD,List.map_cons,List.sum_cons] at h1 ⊢
    omega
 have:=this q.atoms []
 simpa [cg] using this
theorem lD:∀ (al:List eb),(∀ a∈al,a.ts.length<=5)->fD al<=5 * al.length
 | [],_=>by simp [fD]
 | a::al,h=>by
   have h1:=lD al fun b hb=>h b (List.mem_cons_of_mem _ hb)
   have h2:=h a List.mem_cons_self
   simp only[fD,List.map_cons,List.sum_cons,List.length_cons] at h1 ⊢
   omega
theorem ed.heads {q:cf} (h:ed q):q.head.length<=30:=by
 have h1:=qd q.head (cg q.atoms) (pP q.head [] 0 h.dup).1 (By h.lack)
 have h2:=rM q
 have h3:=lD q.atoms h.thin
 have h4:=h.few
 omega
theorem th {q:cf} (h:ed q) (hr:fq q) (p0:Nat:=0):∃ ts,LZ (qT q) p0 ts/\fm ts=.ok q []:=by
 have hat:∀ a∈q.atoms,ig bS cH lA a:=fun a ha=>uU (h.rel a ha) fun t ht=>vU (h.var a ha t ht) (h.lit a ha t ht) (hr a ha t ht).1 (hr a ha t ht).2
 have hhd:∀ x∈q.head,ig aY (fun z:List UInt8 × Int=>z.1) id x:=fun x hx=>vu (h.head x hx)
 obtain⟨a0,al,hal⟩:∃ a0 al,q.atoms=a0::al:=by
  cases he:q.atoms with
  | nil=>exact absurd he h.some
  | cons a l=>exact⟨a,l,rfl⟩
 obtain⟨P1,hP1⟩:∃ P1:Nat,P1=p0+q.name.length+1+(Lib.join (q.head.map id) [44,32]).length+1:=⟨_,rfl⟩
 obtain⟨t2,z2,k1,k2,k3,_⟩:=jA eS a0 al [] (P1+1+2+1) [aF (P1+1+2+1+(Lib.join ((a0::al).map lA) [44,32]).length)] (by rw[<-hal];exact hat) (by simp [hU,bt,aR,au]) (by simp [cV,aF]) (vA _)
 rw[List.append_nil] at k1
 have m1:=nS (p:=P1) (Dr (nS k1))
 obtain⟨t1,z1,j1,j2,j3⟩:=jF dH q.head (32::58::45::32::Lib.join ((a0::al).map lA) [44,32]) (p0+q.name.length) (fG [58,45] (P1+1)::t2) hhd (by rw[<-hP1];exact m1)
 have hw:=pZ (p:=p0) h.name (by simp [hU,bt,aR,au]) j1
 refine⟨kM q.name p0::fG [40] (p0+q.name.length)::t1,?_,?_⟩
 ·unfold qT
  rw[hal]
  exact hw
 ·have e0:aY (kM q.name p0::fG [40] (p0+q.name.length)::t1)=.ok (q.name,(p0:Int)) (fG [40] (p0+q.name.length)::t1):=by
   unfold aY
   simp [tk,kM]
  have e1:tk 3 [[58,45]] (fG [58,45] (P1+1)::t2)=.ok (fG [58,45] (P1+1)) t2:=by simp [tk,fG]
  have e2:∀ n,tk 0 [] [aF n]=.ok (aF n) [aF n]:=fun n=>by simp [tk,aF]
  have hq:cJ (q.name,(p0:Int)) z1 z2=q:=by
   unfold cJ
   have:z2.map (fun a=>(⟨a.1.1,a.2.map (·.1)⟩:eb))=q.atoms:=by rw[hal];exact k2
   rw[this,j2]
  have hlim:nF z2=none:=by
   have hl:z2.length<=6:=by
    have:z2.length=(a0::al).length:=by rw[<-k2,List.length_map]
    rw[this,<-hal]
    exact h.few
   have hg:∀ l:List eZ,(∀ a∈l,a.2.length<=5)->fH l=none:=by
    intro l
    induction l with
    | nil=>intro _;rfl
    | cons b r ih =>
      intro hb
      unfold fH
      rw[List.getElem?_eq_none (hb b List.mem_cons_self)]
      exact ih fun a ha=>hb a (List.mem_cons_of_mem _ ha)
   unfold nF
   rw[List.getElem?_eq_none (by omega)]
   refine hg z2 fun a ha=>?_
   have h1:cH a∈q.atoms:=by
    rw[hal,<-k2]
    exact List.mem_map.2 ⟨a,ha,rfl⟩
   have:=h.thin _ h1
   simpa [cH] using this
  unfold fm
  rw[e0]
  simp only[j3,e1,k3,e2]
  unfold tH
  rw[hlim]
  simp only
  rw[hq,j2,decide_eq_false h.dup,decide_eq_false h.lack]
  generalize z1[(fA q.head).toNat]? = A
  generalize z1[(cj (cg q.atoms) q.head).toNat]? = B
  rcases A with _ | x<;>rcases B with _ | y<;>rfl
theorem iy {b:Nat} (l:List (List UInt8)) (h:∀ x∈l,x.length<=b):(Lib.join l [44,32]).length<=(b+2) * l.length:=by
 cases l with
 | nil=>simp [Lib.join_nil]
 | cons x r =>
   have hl:∀ r:List (List UInt8),(∀ x∈r,x.length<=b)->Lib.lens r<=b * r.length:=by
    intro r
    induction r with
    | nil=>intro _;simp [Lib.lens]
    | cons y r ih =>
      intro hr
      have h3:=ih fun z hz=>hr z (List.mem_cons_of_mem _ hz)
      have h4:=hr y List.mem_cons_self
      simp only[Lib.lens,List.map_cons,List.sum_cons,List.length_cons,Nat.mul_succ] at h3 ⊢
      omega
   have h1:=hl r fun z hz=>h z (List.mem_cons_of_mem _ hz)
   have h2:=h x List.mem_cons_self
   rw[Lib.join_cons,List.length_append,Lib.joinTail_length]
   simp only[List.length_cons,List.length_nil,Nat.add_mul,Nat.mul_succ]
   omega
theorem pw {k n:Int} {t:List UInt8} (hv:ax k n t=true) (h0 : -9223372036854775808<=n) (h1:n<=9223372036854775807):(aW k n t).length<=258:=by
 unfold aW
 rw[if_pos hv]
 simp only[ax,decide_eq_true_eq] at hv
 rcases hv with ⟨rfl,rfl⟩ | ⟨rfl,rfl,ht⟩
 ·rw[if_pos rfl]
  rcases gG n with ⟨u,hu,e⟩ | ⟨u,_,hu,e⟩
  ·rw[e,Lib.decDigits_length]
   have:=Lib.nDigits_le20 u (by omega)
   omega
  ·rw[e,List.length_cons,Lib.decDigits_length]
   have:=Lib.nDigits_le20 u (by omega)
   omega
 ·rw[if_neg (by decide)]
  have:=lq t
  simp only[List.length_cons,List.length_append,List.length_nil]
  omega
theorem bg {x:List UInt8} (h:ai x=true):1<=x.length/\x.length<=16:=by
 unfold ai at h
 simp only[decide_eq_true_eq] at h
 exact⟨List.length_pos_iff.2 h.1,h.2.2.2⟩
theorem CZ {q:cf} (h:ed q) (hr:fq q):∀ a∈q.atoms,∀ t∈a.ts,(kN t).length<=258:=fun a ha t ht=>by
 unfold kN
 by_cases hx:t.x=[]
 ·rw[if_pos hx]
  exact pw (h.lit a ha t ht hx) (hr a ha t ht).1 (hr a ha t ht).2
 ·rw[if_neg hx]
  have:=bg (h.var a ha t ht hx).1
  omega
theorem wF {q:cf} (h:ed q) (hr:fq q):∀ a∈q.atoms,(Lib.join (a.ts.map kN) [44,32]).length<=1300/\(lA a).length<=1318:=fun a ha=>by
 have h1:=iy (b:=258) (a.ts.map kN) (fun x hx=>by
  obtain⟨t,ht,rfl⟩:=List.mem_map.1 hx
  exact CZ h hr a ha t ht)
 have h2:=h.thin a ha
 have h3:=bg (h.rel a ha)
 rw[List.length_map] at h1
 have h4:(Lib.join (a.ts.map kN) [44,32]).length<=1300:=by omega
 refine⟨h4,?_⟩
 unfold lA
 simp only[List.length_append,List.length_cons,List.length_nil]
 omega
theorem qJ {q:cf} (h:ed q) (hr:fq q):1<=(qT q).length/\(qT q).length<=16384/\(Lib.join (q.head.map id) [44,32]).length<=540/\(Lib.join (q.atoms.map lA) [44,32]).length<=7920:=by
 have h1:=iy (b:=1318) (q.atoms.map lA) (fun x hx=>by
  obtain⟨a,ha,rfl⟩:=List.mem_map.1 hx
  exact (wF h hr a ha).2)
 have h2:=iy (b:=16) (q.head.map id) (fun x hx=>by
  obtain⟨a,ha,rfl⟩:=List.mem_map.1 hx
  exact (bg (h.head a ha)).2)
 have h3:=h.heads
 have h4:=h.few
 have h5:=bg h.name
 rw[List.length_map] at h1 h2
 have h6:(Lib.join (q.head.map id) [44,32]).length<=540:=by omega
 have h7:(Lib.join (q.atoms.map lA) [44,32]).length<=7920:=by omega
 unfold qT
 simp only[List.length_append,List.length_cons]
 exact⟨by omega,by omega,h6,h7⟩
def qS (t:ak):Prop:=ax t.vk t.vn t.vt=true /\ -9223372036854775808<=t.vn/\t.vn<=9223372036854775807
def BZ (N:Nat) (t:ak):Prop:=((t.k=1->ai t.x=true)/\(t.k=2->qS t))/\0<=t.p/\t.p<=N
def kp (N:Nat) (c:List ak):Prop:=(∀ t∈c,BZ N t)/\bD c
theorem kp.next {N:Nat} {t:ak} {r:List ak} (h:kp N (t::r)) (hk:t.k≠0):kp N r:=⟨fun u hu=>h.1 u (List.mem_cons_of_mem _ hu),h.2.cons hk⟩
section
variable {α : Type} {N : Nat}
def vj (N:Nat) (Q:α->Prop):PR α->Prop
 | .bad a e=>0<=a/\a<=N/\e≠0
 | .ok x c=>Q x/\kp N c
def gg (N:Nat) (P:List ak->PR α) (Q:α->Prop):Prop:=∀ c,kp N c->vj N Q (P c)
theorem cT (N:Nat) (k:Int) (xs:List (List UInt8)):gg N (tk k xs) (fun t=>BZ N t/\t.k=k):=by
 intro c h
 cases c with
 | nil=>exact h.2.elim
 | cons t r =>
   have ht:=h.1 t List.mem_cons_self
   show vj N _ (if t.k=k/\(xs=[]∨t.x∈xs) then .ok t (if k=0 then t::r else r) else .bad t.p 80)
   split
   ·rename_i hc
    refine⟨⟨ht,hc.1⟩,?_⟩
    split
    ·exact h
    ·rename_i hk
     exact h.next (by rw[hc.1];exact hk)
   ·exact⟨ht.2.1,ht.2.2,by decide⟩
theorem oz {P:List ak->PR α} {Q:α->Prop} (hP:gg N P Q):∀ f,gg N (bq P f) (fun xs=>∀ x∈xs,Q x)
 | 0,c,h=>⟨by simp,h⟩
 | f+1,c,h=>by
   unfold bq
   split
   ·rename_i him
    have hd:kp N (c.drop 1):=by
     obtain⟨t,r,rfl⟩:=h.2.some
     have hh:t.k=3/\t.x=[44]:=by simpa [cV] using him
     exact h.next (by rw[hh.1];decide)
    have h1:=hP (c.drop 1) hd
    cases ho:P (c.drop 1) with
    | bad a e=>rw[ho] at h1;exact h1
    | ok x c1 =>
      rw[ho] at h1
      have h2:=oz hP f c1 h1.2
      simp only
      cases hm:bq P f c1 with
      | bad a e=>rw[hm] at h2;exact h2
      | ok xs c2 =>
        rw[hm] at h2
        refine⟨fun y hy=>?_,h2.2⟩
        rcases List.mem_cons.1 hy with rfl | hy
        ·exact h1.1
        ·exact h2.1 y hy
   ·exact⟨by simp,h⟩
theorem jN {P:List ak->PR α} {Q:α->Prop} (hP:gg N P Q):gg N (aQ P) (fun xs=>∀ x∈xs,Q x):=by
 intro c h
 have h1:=hP c h
 unfold aQ
 cases ho:P c with
 | bad a e=>rw[ho] at h1;exact h1
 | ok x c1 =>
   rw[ho] at h1
   have h2:=oz hP c1.length c1 h1.2
   simp only
   cases hm:bq P c1.length c1 with
   | bad a e=>rw[hm] at h2;exact h2
   | ok xs c2 =>
     rw[hm] at h2
     refine⟨fun y hy=>?_,h2.2⟩
     rcases List.mem_cons.1 hy with rfl | hy
     ·exact h1.1
     ·exact h2.1 y hy
theorem jI {P:List ak->PR α} {Q:α->Prop} (hP:gg N P Q):gg N (aJ P) (fun xs=>∀ x∈xs,Q x):=by
 intro c h
 have h1:=cT N 3 [[40]] c h
 unfold aJ
 cases ho:tk 3 [[40]] c with
 | bad a e=>rw[ho] at h1;exact h1
 | ok t c1 =>
   rw[ho] at h1
   simp only
   have h2:vj N (fun xs=>∀ x∈xs,Q x) (if cV [41] c1=true then (.ok [] c1:PR (List α)) else aQ P c1):=by
    split
    ·exact⟨by simp,h1.2⟩
    ·exact jN hP c1 h1.2
   cases hm:(if cV [41] c1=true then (.ok [] c1:PR (List α)) else aQ P c1) with
   | bad a e=>rw[hm] at h2;exact h2
   | ok xs c2 =>
     rw[hm] at h2
     have h3:=cT N 3 [[41]] c2 h2.2
     simp only
     cases hk:tk 3 [[41]] c2 with
     | bad a e=>rw[hk] at h3;exact h3
     | ok u c3=>rw[hk] at h3;exact⟨h2.1,h3.2⟩
end
theorem jJ (N:Nat):gg N aY (fun x=>ai x.1=true/\0<=x.2/\x.2<=N):=by
 intro c h
 have h1:=cT N 1 [] c h
 unfold aY
 cases ho:tk 1 [] c with
 | bad a e=>rw[ho] at h1;exact h1
 | ok t c1 =>
   rw[ho] at h1
   exact⟨⟨h1.1.1.1.1 h1.1.2,h1.1.1.2⟩,h1.2⟩
def ux (N:Nat) (x:dd × Int):Prop:=(x.1.x≠[]->ai x.1.x=true/\x.1.vl=⟨0,0,[]⟩)/\(x.1.x=[]->ax x.1.k x.1.n x.1.t=true)/\(-9223372036854775808<=x.1.n/\x.1.n<=9223372036854775807)/\0<=x.2/\x.2<=N
theorem vf (N:Nat):gg N bK (ux N):=by
 intro c h
 unfold bK
 split
 ·have h1:=cT N 2 [] c h
  cases ho:tk 2 [] c with
  | bad a e=>rw[ho] at h1;exact h1
  | ok t c1 =>
    rw[ho] at h1
    have hl:=h1.1.1.1.2 h1.1.2
    exact⟨⟨fun e=>absurd rfl e,fun _=>hl.1,hl.2,h1.1.1.2⟩,h1.2⟩
 ·have h1:=cT N 1 [] c h
  cases ho:tk 1 [] c with
  | bad a e=>rw[ho] at h1;exact h1
  | ok t c1 =>
    rw[ho] at h1
    have hn:=h1.1.1.1.1 h1.1.2
    have hne:t.x≠[]:=fun e=>by rw[e] at hn;revert hn;decide
    exact⟨⟨fun _=>⟨hn,rfl⟩,fun e=>absurd e hne,⟨by simp,by simp⟩,h1.1.1.2⟩,h1.2⟩
def vZ (N:Nat) (x:eZ):Prop:=(ai x.1.1=true/\0<=x.1.2/\x.1.2<=N)/\∀ t∈x.2,ux N t
theorem uv (N:Nat):gg N bS (vZ N):=by
 intro c h
 have h1:=jJ N c h
 unfold bS
 cases ho:aY c with
 | bad a e=>rw[ho] at h1;exact h1
 | ok t c1 =>
   rw[ho] at h1
   have h2:=jI (vf N) c1 h1.2
   simp only
   cases hm:aJ bK c1 with
   | bad a e=>rw[hm] at h2;exact h2
   | ok u c2 =>
     rw[hm] at h2
     exact⟨⟨h1.1,h2.1⟩,h2.2⟩
theorem pt {N:Nat}:∀ {l:List eZ} {x:Int × Int},(∀ a∈l,vZ N a)->fH l=some x->0<=x.1/\x.1<=N/\x.2≠0
 | [],x,_,h=>by cases h
 | a::l,x,hl,h=>by
   unfold fH at h
   cases h5:a.2[5]? with
   | some t =>
     rw[h5] at h
     simp only[Option.some.injEq] at h
     subst h
     have:=((hl a List.mem_cons_self).2 t (FC h5)).2.2.2
     exact⟨this.1,this.2,show (91:Int)≠0 by decide⟩
   | none =>
     rw[h5] at h
     exact pt (fun b hb=>hl b (List.mem_cons_of_mem _ hb)) h
theorem yz {N:Nat} {n:List UInt8 × Int} {hs:List (List UInt8 × Int)} {l:List eZ} (hn:ai n.1=true) (hh:∀ x∈hs,ai x.1=true/\0<=x.2/\x.2<=N) (hl:∀ a∈l,vZ N a) (hne:l≠[]):match tH n hs l with
 | .bad a e=>0<=a/\a<=N/\e≠0
 | .ok q _=>ed q/\fq q:=by
 unfold tH
 cases h6:nF l with
 | some x =>
   simp only
   unfold nF at h6
   cases h7:l[6]? with
   | some a =>
     rw[h7] at h6
     simp only[Option.some.injEq] at h6
     subst h6
     have:=(hl a (FC h7)).1.2
     exact⟨this.1,this.2,show (90:Int)≠0 by decide⟩
   | none =>
     rw[h7] at h6
     exact pt hl h6
 | none =>
   simp only
   obtain⟨k1,k2⟩:=pb h6
   have hX:∀ (i:Nat) (h:List UInt8 × Int) (e:Int),e≠0->hs[i]? = some h->0<=h.2/\h.2<=N/\e≠0:=fun i h e he hi=>⟨(hh h (FC hi)).2.1,(hh h (FC hi)).2.2,he⟩
   by_cases hd0:0<=fA (hs.map (·.1))
   ·obtain⟨j,hj,_,hjl⟩:=iY (hs.map (·.1)) [] 0 (show 0<=gw [] (hs.map (·.1)) 0 from hd0)
    have hj2:fA (hs.map (·.1))=(j:Int):=hj
    rw[List.length_map] at hjl
    have he:hs[(fA (hs.map (·.1))).toNat]? = some (hs[j]'(by omega)):=by
     rw[hj2,Int.toNat_natCast]
     exact FD (by omega)
    rw[he,decide_eq_true hd0]
    exact hX j _ 92 (by decide) (FD (by omega))
   ·rw[decide_eq_false hd0]
    by_cases hl0:0<=cj (cg (cJ n hs l).atoms) (hs.map (·.1))
    ·obtain⟨j,hj,hjl⟩:=jO (xs:=(hs.map (·.1)).map bO) (show 0<=hC _ ((hs.map (·.1)).map bO) from hl0)
     have hj2:cj (cg (cJ n hs l).atoms) (hs.map (·.1))=(j:Int):=hj
     simp only[List.length_map] at hjl
     have he:hs[(cj (cg (cJ n hs l).atoms) (hs.map (·.1))).toNat]? = some (hs[j]'hjl):=by
      rw[hj2,Int.toNat_natCast]
      exact FD hjl
     rw[he,decide_eq_true hl0]
     generalize hs[(fA (hs.map (·.1))).toNat]? = A
     rcases A with _ | x
     ·exact hX j _ 93 (by decide) (FD hjl)
     ·exact hX j _ 93 (by decide) (FD hjl)
    ·rw[decide_eq_false hl0]
     have hA:∀ a∈(cJ n hs l).atoms,∃ z∈l,a=cH z:=fun a ha=>by
      rw[fN] at ha
      obtain⟨z,hz,rfl⟩:=List.mem_map.1 ha
      exact⟨z,hz,rfl⟩
     have hT:∀ a∈(cJ n hs l).atoms,∀ t∈a.ts,∃ z,ux N z/\t=z.1:=fun a ha t ht=>by
      obtain⟨z,hz,rfl⟩:=hA a ha
      simp only[cH] at ht
      obtain⟨y,hy,rfl⟩:=List.mem_map.1 ht
      exact⟨y,(hl z hz).2 y hy,rfl⟩
     have hd1:¬ 0<=fA (cJ n hs l).head:=hd0
     have hd2:¬ 0<=cj (cg (cJ n hs l).atoms) (cJ n hs l).head:=hl0
     suffices hfin:ed (cJ n hs l)/\fq (cJ n hs l) by
      generalize hs[(fA (hs.map (·.1))).toNat]? = A
      generalize hs[(cj (cg (cJ n hs l).atoms) (hs.map (·.1))).toNat]? = B
      rcases A with _ | x<;>rcases B with _ | y<;>exact hfin
     refine⟨⟨hn,fun x hx=>?_,fun a ha=>?_,fun a ha t ht hx=>?_,fun a ha t ht hx=>?_,?_,?_,fun a ha=>?_,hd1,hd2⟩,fun a ha t ht=>?_⟩
     ·obtain⟨z,hz,rfl⟩:=List.mem_map.1 (show x∈hs.map (·.1) from hx)
      exact (hh z hz).1
     ·obtain⟨z,hz,rfl⟩:=hA a ha
      exact (hl z hz).1.1
     ·obtain⟨z,hz,rfl⟩:=hT a ha t ht
      exact hz.1 hx
     ·obtain⟨z,hz,rfl⟩:=hT a ha t ht
      exact hz.2.1 hx
     ·rw[fN]
      intro e
      exact hne (List.map_eq_nil_iff.1 e)
     ·rw[fN,List.length_map]
      exact k1
     ·obtain⟨z,hz,rfl⟩:=hA a ha
      simp only[cH,List.length_map]
      exact k2 z hz
     ·obtain⟨z,hz,rfl⟩:=hT a ha t ht
      exact hz.2.2.1
theorem Db {P:List ak->PR eZ} {c c':List ak} {l:List eZ} (h:aQ P c=.ok l c'):l≠[]:=by
 unfold aQ at h
 cases ho:P c with
 | bad a e=>rw[ho] at h;cases h
 | ok x c1 =>
   rw[ho] at h
   simp only at h
   cases hm:bq P c1.length c1 with
   | bad a e=>rw[hm] at h;cases h
   | ok xs c2 =>
     rw[hm] at h
     simp only[PR.ok.injEq] at h
     rw[<-h.1]
     simp
theorem tF {N:Nat} {ts:List ak} (h:kp N ts):match fm ts with
 | .bad a e=>0<=a/\a<=N/\e≠0
 | .ok q _=>ed q/\fq q:=by
 have h1:=jJ N ts h
 unfold fm
 cases ho:aY ts with
 | bad a e=>rw[ho] at h1;exact h1
 | ok n c1 =>
   rw[ho] at h1
   have h2:=jI (jJ N) c1 h1.2
   simp only
   cases hl:aJ aY c1 with
   | bad a e=>rw[hl] at h2;exact h2
   | ok hs c2 =>
     rw[hl] at h2
     have h3:=cT N 3 [[58,45]] c2 h2.2
     simp only
     cases hk:tk 3 [[58,45]] c2 with
     | bad a e=>rw[hk] at h3;exact h3
     | ok u c3 =>
       rw[hk] at h3
       have h4:=jN (uv N) c3 h3.2
       simp only
       cases hm:aQ bS c3 with
       | bad a e=>rw[hm] at h4;exact h4
       | ok l c4 =>
         rw[hm] at h4
         have h5:=cT N 0 [] c4 h4.2
         simp only
         cases hz:tk 0 [] c4 with
         | bad a e=>rw[hz] at h5;exact h5
         | ok v c5 =>
           simp only
           exact yz h1.1.1 h2.1 h4.1 (Db hm)
theorem xU {r:List UInt8} (hl:aR (bt r 0)=true) (hr:r≠[]) (h16:ap r<=16):ai (r.take (ap r))=true:=by
 have hp:=ik hr hl
 have hle:=fC r
 have e:r.take (ap r)=r.takeWhile fun c=>aR c.toNat || au c.toNat:=by
  have h1:=List.takeWhile_prefix (fun c:UInt8=>aR c.toNat || au c.toNat) (l:=r)
  exact (List.prefix_iff_eq_take.1 h1).symm
 have hall:∀ c∈r.take (ap r),(aR c.toNat || au c.toNat)=true:=by
  intro c hc
  rw[e] at hc
  exact List.all_eq_true.1 (List.all_takeWhile (p:=fun c:UInt8=>aR c.toNat || au c.toNat) (l:=r)) c hc
 have hlen:(r.take (ap r)).length=ap r:=by rw[List.length_take];omega
 have hrun:ap (r.take (ap r))=(r.take (ap r)).length:=by
  have:=List.takeWhile_append_of_pos (p:=fun c:UInt8=>aR c.toNat || au c.toNat) (l₁:=r.take (ap r)) (l₂:=[]) (by simpa using hall)
  rw[List.append_nil] at this
  show (List.takeWhile _ (r.take (ap r))).length=_
  rw[this]
  simp
 unfold ai
 simp only[decide_eq_true_eq]
 refine⟨?_,?_,hrun,by omega⟩
 ·intro e2
  rw[e2] at hlen
  simp at hlen
  omega
 ·have:=eA (l:=r) (y:=[]) (n:=ap r) (j:=0) (by omega) hle
  rw[List.append_nil] at this
  rw[this]
  exact hl
theorem Bj {r:List UInt8} {p:Int}:(aA r p).2=0->(aA r p).1.k=2->qS (aA r p).1:=by
 have hs:=qe r
 unfold aA ey
 repeat' split
 all_goals
  intro h g
  first
  | (simp at h;done)
  | (simp at g;done)
  | contradiction
  | (rename_i he;exact⟨(hs he).1,(hs he).2.1.1,(hs he).2.1.2⟩)
theorem AX:∀ (m:Nat) (r:List UInt8) (p:Nat),r.length<=m->(LX r p).e=0->∀ t∈(LX r p).ts,((t.k=1->ai t.x=true)/\(t.k=2->qS t))/\(p:Int)<=t.p/\t.p<=((p+r.length:Nat):Int):=by
 intro m
 have hend:∀ (r:List UInt8) (p:Nat),r=[]∨bt r 0=35->∀ t∈(LX r p).ts,((t.k=1->ai t.x=true)/\(t.k=2->qS t))/\(p:Int)<=t.p/\t.p<=((p+r.length:Nat):Int):=by
  intro r p h t ht
  rw[eG h] at ht
  simp only[List.mem_singleton] at ht
  subst ht
  exact⟨⟨fun h=>by simp [aF] at h,fun h=>by simp [aF] at h⟩,by simp only[aF];omega,by simp [aF]⟩
 induction m with
 | zero =>
   intro r p h _
   exact hend r p (.inl (List.length_eq_zero_iff.1 (by omega)))
 | succ m ih =>
   intro r p h
   by_cases h0:r=[]∨bt r 0=35
   ·exact fun _=>hend r p h0
   ·have hr:r≠[]:=fun e=>h0 (.inl e)
    have hl:=List.length_pos_iff.2 hr
    by_cases hb:fZ (bt r 0)=true
    ·rw[dz h0 hb]
     intro he t ht
     have:=ih _ _ (by rw[List.length_drop];omega) he t ht
     rw[List.length_drop] at this
     exact⟨this.1,by omega,by omega⟩
    ·have hb':fZ (bt r 0)=false:=by simpa using hb
     by_cases he:(aA r p).2=0
     ·obtain⟨l1,_,l3⟩:=dB he hr
      obtain⟨_,k2⟩:=j9 he
      rw[gE h0 hb' he]
      split
      ·rename_i h9
       intro h8
       exact absurd h8 h9
      ·rename_i h9
       intro _ t ht
       simp only[List.mem_cons] at ht
       rcases ht with rfl | ht
       ·refine⟨⟨fun hk=>?_,fun hk=>Bj he hk⟩,by rw[k2];exact Int.le_refl _,by rw[k2];omega⟩
        obtain⟨a1,a2,a3⟩:=ud he hk
        rw[a3]
        exact xU a1 hr a2
       ·have:=ih (r.drop (aA r p).1.x.length) (p+(aA r p).1.x.length) (by rw[List.length_drop];omega) (by simpa using h9) t ht
        rw[List.length_drop] at this
        exact⟨this.1,by omega,by omega⟩
     ·rw[iC h0 hb' he]
      exact fun h=>absurd h he
theorem pG {l:List UInt8} (h:(aN l).e=0) (he:bD (aN l).ts):kp l.length (aN l).ts:=by
 by_cases hl:16384<l.length
 ·rw[gy hl] at h
  exact absurd h (by decide)
 ·rw[cR (by omega)] at h ⊢
  rw[cR (by omega)] at he
  refine⟨fun t ht=>?_,he⟩
  have:=AX _ l 0 FA h t ht
  exact⟨this.1,by have:=this.2.1;omega,by have:=this.2.2;omega⟩
theorem uw (l:List UInt8) (h:(aN l).e≠0):0<=(aN l).at_/\(aN l).at_<=l.length:=by
 by_cases hl:16384<l.length
 ·rw[gy hl]
  exact⟨by simp,by simp⟩
 ·rw[cR (by omega)] at h ⊢
  obtain⟨n,ts,h1,h2,_⟩:=tQ _ l 0 FA h
  rw[h1]
  exact⟨by omega,by omega⟩
structure eP where
 add:Bool
 rel:List UInt8
 row:List Vl
deriving DecidableEq
def C3 (w:World) (cells:List Value) (c:eP):Prop:=∃ rv,cells=[.bool c.add,.string ⟨c.rel.toArray⟩,rv]/\aj w rv 3 (c.row.map Vl.cells)/\c.row.length<=4398046511104
def cU (w:World) (v:Value) (l:List eP):Prop:=∃ rows,aj w v 3 rows/\aH (C3 w) rows l
theorem C3.keep {w w':World} {row:List Value} {a:eP} (h:C3 w row a) (hb:Below w.heap.size w w'):C3 w' row a:=by
 obtain⟨rv,rfl,h2,h3⟩:=h
 exact⟨rv,rfl,h2.keep hb,h3⟩
theorem cU.keep {w w':World} {v:Value} {l:List eP} (h:cU w v l) (hb:Below w.heap.size w w'):cU w' v l:=by
 obtain⟨rows,h1,h2⟩:=h
 exact⟨rows,h1.keep hb,h2.mono fun b a hh=>hh.keep hb⟩
theorem cU.form {w:World} {v:Value} {l:List eP} (h:cU w v l):∃ (ad:Option Addr) (cap:Nat),v=.slice ad l.length cap/\l.length<=cap/\cap<=maxLen:=by
 obtain⟨rows,h1,h2⟩:=h
 obtain⟨ad,cap,hv,h3,h4⟩:=h1.form
 rw[h2.length] at hv h3
 exact⟨ad,cap,hv,h3,h4⟩
theorem cU.get {w:World} {v:Value} {l:List eP} (h:cU w v l) {i:Nat} {a:eP} (hi:l[i]? = some a):∃ (b off cap:Nat) (rv:Value),v=.slice (some ⟨b,off,none⟩) l.length cap/\l.length<=cap/\cap<=maxLen/\b<w.heap.size /\
 w.cell? ⟨b,off+i * 3,none⟩=some (.bool a.add)/\w.cell? ⟨b,off+i * 3+1,none⟩=some (.string ⟨a.rel.toArray⟩)/\w.cell? ⟨b,off+i * 3+2,none⟩=some rv/\aj w rv 3 (a.row.map Vl.cells)/\a.row.length<=4398046511104:=by
 obtain⟨rows,h1,h2⟩:=h
 obtain⟨row,hr,rv,rfl,h3,h4⟩:=h2.get hi
 obtain⟨b,off,cap,hv,h5,h6,h7,h8⟩:=h1.get hr
 rw[h2.length] at hv h5
 exact⟨b,off,cap,rv,hv,h5,h6,h7,h8 0 _ rfl,h8 1 _ rfl,h8 2 _ rfl,h3,h4⟩
theorem cU.len {w:World} {v:Value} {l:List eP} (h:cU w v l):l.length<=8796093022208:=by
 obtain⟨rows,h1,h2⟩:=h
 rw[<-h2.length]
 exact h1.len
def tR (B:Nat) (w:World) (row:List Value) (c:eP):Prop:=∃ rv,row=[.bool c.add,.string ⟨c.rel.toArray⟩,rv]/\w.ownsRow B 111 3 rv c.row.length (c.row.map Vl.cells).flatten
def cK (B:Nat) (w:World) (v:Value) (l:List eP):Prop :=
 ∃ rows:List (List Value),w.ownsRow B 68 3 v l.length rows.flatten/\aH (tR B w) rows l
theorem tR.mt {B B':Nat} {w w':World} {row:List Value} {a:eP} {Ts:List TypeId} (h:tR B w row a) (hm:MT B' Ts w w') (ht:111 ∉ Ts):tR B w' row a:=by
 obtain⟨rv,rfl,h2⟩:=h
 exact⟨rv,rfl,hm.ownsRow h2 ht⟩
theorem tR.low {B B':Nat} {w:World} {row:List Value} {a:eP} (h:tR B w row a) (hb:B'<=B):tR B' w row a:=by
 obtain⟨rv,rfl,h2⟩:=h
 exact⟨rv,rfl,World.ownsRow.low h2 hb⟩
theorem cK.low {B B':Nat} {w:World} {v:Value} {l:List eP} (h:cK B w v l) (hb:B'<=B):cK B' w v l:=by
 obtain⟨rows,h1,h2⟩:=h
 exact⟨rows,World.ownsRow.low h1 hb,h2.mono fun b x hh=>hh.low hb⟩
theorem cK.mt {B B':Nat} {w w':World} {v:Value} {l:List eP} {Ts:List TypeId} (h:cK B w v l) (hm:MT B' Ts w w') (h1:68 ∉ Ts) (h2:111 ∉ Ts):cK B w' v l:=by
 obtain⟨rows,h3,h4⟩:=h
 exact⟨rows,hm.ownsRow h3 h1,h4.mono fun b x hh=>hh.mt hm h2⟩
theorem cK.at {B:Nat} {w:World} {v:Value} {l:List eP} (h:cK B w v l) (hl:l.length<=8796093022208) (hr:∀ c∈l,c.row.length<=4398046511104):cU w v l:=by
 obtain⟨rows,h1,h2⟩:=h
 have hll:=h2.length
 refine⟨rows,aj.ofOwn h1 hll.symm ?_ (by omega),ep h2 fun c x hx hh=>?_⟩
 ·intro c hc
  obtain⟨x,_,rv,rfl,_⟩:=bm h2 c hc
  rfl
 ·obtain⟨rv,rfl,ho⟩:=hh
  have hx2:=hr x hx
  exact⟨rv,rfl,aj.ofOwn ho (by simp) (nd _) (by simp;omega),hx2⟩
def kH (u:Vl):Bool := !ax u.k u.n u.t
def dj (l:List Vl):Bool:=decide (l.length<=30) && !l.any kH
def bB (u:Vl):List UInt8:=aW u.k u.n u.t
def cz (l:List Vl):List UInt8:=40::(Lib.join (l.map bB) [44,32]++[41])
def bW (l:List Vl):List UInt8:=if dj l=true then cz l else []
def eu (c:eP):Bool:=ai c.rel && dj c.row
def cG (c:eP):List UInt8:=(if c.add=true then 43 else 45)::(c.rel++cz c.row)
def gB (b:List eP):List UInt8:=if b.all eu=true then Lib.join (b.map cG) [44,32] else []
def bG (u:Vl):Prop := -9223372036854775808<=u.n/\u.n<=9223372036854775807
def qC (b:List eP):Prop:=∀ c∈b,∀ u∈c.row,bG u
theorem gh {l:List Vl} (h:dj l=true):l.length<=30/\∀ u∈l,ax u.k u.n u.t=true:=by
 unfold dj at h
 rw[Bool.and_eq_true,decide_eq_true_eq] at h
 refine⟨h.1,fun u hu=>?_⟩
 have h2:l.any kH=false:=by simpa using h.2
 have:=List.any_eq_false.1 h2 u hu
 unfold kH at this
 simpa using this
theorem pH {c:eP} (h:eu c=true):ai c.rel=true/\dj c.row=true:=by
 unfold eu at h
 simpa using h
theorem pu {l:List Vl} (h:dj l=true) (hr:∀ u∈l,bG u):∀ u∈l,(bB u).length<=258:=fun u hu=>pw ((gh h).2 u hu) (hr u hu).1 (hr u hu).2
theorem gb {l:List Vl} (h:dj l=true) (hr:∀ u∈l,bG u):(Lib.join (l.map bB) [44,32]).length<=7800/\(cz l).length<=7802:=by
 have h1:=iy (b:=258) (l.map bB) (fun x hx=>by
  obtain⟨u,hu,rfl⟩:=List.mem_map.1 hx
  exact pu h hr u hu)
 have h2:=(gh h).1
 rw[List.length_map] at h1
 have h3:(Lib.join (l.map bB) [44,32]).length<=7800:=by omega
 refine⟨h3,?_⟩
 unfold cz
 simp only[List.length_cons,List.length_append,List.length_nil]
 omega
abbrev kS:=eP × Int
def iH (c:List ak):PR Vl:=match tk 2 [] c with
 | .bad a e=>.bad a e
 | .ok t c1=>.ok ⟨t.vk,t.vn,t.vt⟩ c1
abbrev lz:List (List UInt8):=[[43],[45]]
def jn (s t:ak) (l:List Vl):kS:=(⟨decide (s.x=[43]),t.x,l⟩,s.p)
def eJ (c:List ak):PR kS:=match tk 3 lz c with
 | .bad a e=>.bad a e
 | .ok s c1=>match tk 1 [] c1 with
   | .bad a e=>.bad a e
   | .ok t c2=>match aJ iH c2 with
     | .bad a e=>.bad a e
     | .ok l c3=>.ok (jn s t l) c3
theorem qt {c:List ak} {a e:Int} (h:tk 2 [] c=.bad a e):iH c=.bad a e:=by
 unfold iH
 rw[h]
theorem ur {c c1:List ak} {t:ak} (h:tk 2 [] c=.ok t c1):iH c=.ok ⟨t.vk,t.vn,t.vt⟩ c1:=by
 unfold iH
 rw[h]
theorem kg {c:List ak} {a e:Int} (h:tk 3 lz c=.bad a e):eJ c=.bad a e:=by
 unfold eJ
 rw[h]
theorem nX {c c1:List ak} {s:ak} {a e:Int} (h:tk 3 lz c=.ok s c1) (h2:tk 1 [] c1=.bad a e):eJ c=.bad a e:=by
 unfold eJ
 rw[h]
 simp only[h2]
theorem mX {c c1 c2:List ak} {s t:ak} {a e:Int} (h:tk 3 lz c=.ok s c1) (h2:tk 1 [] c1=.ok t c2) (h3:aJ iH c2=.bad a e):eJ c=.bad a e:=by
 unfold eJ
 rw[h]
 simp only[h2,h3]
theorem qU {c c1 c2 c3:List ak} {s t:ak} {l:List Vl} (h:tk 3 lz c=.ok s c1) (h2:tk 1 [] c1=.ok t c2) (h3:aJ iH c2=.ok l c3):eJ c=.ok (jn s t l) c3:=by
 unfold eJ
 rw[h]
 simp only[h2,h3]
theorem oe:dp iH:=by
 intro ts x ts' h
 cases h1:tk 2 [] ts with
 | bad a e=>rw[qt h1] at h;cases h
 | ok t c1 =>
   rw[ur h1] at h
   have h2:=cA _ _ _ _ _ h1
   simp only[PR.ok.injEq] at h
   rw[<-h.2]
   exact h2
theorem kD:dp eJ:=by
 intro ts x ts' h
 cases h1:tk 3 lz ts with
 | bad a e=>rw[kg h1] at h;cases h
 | ok s c1 =>
   have g1:=cA _ _ _ _ _ h1
   cases h2:tk 1 [] c1 with
   | bad a e=>rw[nX h1 h2] at h;cases h
   | ok t c2 =>
     have g2:=cA _ _ _ _ _ h2
     cases h3:aJ iH c2 with
     | bad a e=>rw[mX h1 h2 h3] at h;cases h
     | ok l c3 =>
       have g3:=lr oe _ _ _ h3
       rw[qU h1 h2 h3] at h
       simp only[PR.ok.injEq] at h
       rw[<-h.2]
       omega
def Cs:List ak->Bool
 | []=>true
 | t::_=>decide (t.k=0)
def dg (l:List kS):Int:=match l[256]? with
 | some z=>z.2
 | none => -1
def tT (l:List kS):PR (List eP):=if 0<=dg l then .bad (dg l) 100 else .ok (l.map (·.1)) []
def fo (c:List ak):PR (List kS):=if Cs c=true then .ok [] c else aQ eJ c
def fv (c:List ak):PR (List eP):=match fo c with
 | .bad a e=>.bad a e
 | .ok l c1=>match tk 0 [] c1 with
   | .bad a e=>.bad a e
   | .ok _ _=>tT l
theorem lU {c:List ak} {a e:Int} (h:fo c=.bad a e):fv c=.bad a e:=by
 unfold fv
 rw[h]
theorem lS {c c1:List ak} {l:List kS} {a e:Int} (h:fo c=.ok l c1) (h2:tk 0 [] c1=.bad a e):fv c=.bad a e:=by
 unfold fv
 rw[h]
 simp only[h2]
theorem lG {c c1 c2:List ak} {l:List kS} {u:ak} (h:fo c=.ok l c1) (h2:tk 0 [] c1=.ok u c2):fv c=tT l:=by
 unfold fv
 rw[h]
 simp only[h2]
theorem gJ (l:List kS) (z:kS):dg (l++[z])=if l.length=256 then z.2 else dg l:=by
 unfold dg
 by_cases h:l.length=256
 ·rw[if_pos h,List.getElem?_append_right (by omega),h]
  rfl
 ·rw[if_neg h]
  by_cases h2:256<l.length
  ·rw[List.getElem?_append_left h2]
  ·rw[List.getElem?_eq_none (by simp;omega),List.getElem?_eq_none (by omega)]
theorem qf {l:List kS} (h:l.length<=256):dg l = -1:=by
 unfold dg
 rw[List.getElem?_eq_none h]
def CY (N:Nat) (z:kS):Prop:=ai z.1.rel=true/\(∀ u∈z.1.row,ax u.k u.n u.t=true/\bG u)/\0<=z.2/\z.2<=N
theorem Ae (N:Nat):gg N iH (fun u=>ax u.k u.n u.t=true/\bG u):=by
 intro c h
 have h1:=cT N 2 [] c h
 cases ho:tk 2 [] c with
 | bad a e=>rw[ho] at h1;rw[qt ho];exact h1
 | ok t c1 =>
   rw[ho] at h1
   rw[ur ho]
   have hl:=h1.1.1.1.2 h1.1.2
   exact⟨⟨hl.1,hl.2⟩,h1.2⟩
theorem Ab (N:Nat):gg N eJ (CY N):=by
 intro c h
 have h1:=cT N 3 lz c h
 cases ho:tk 3 lz c with
 | bad a e=>rw[ho] at h1;rw[kg ho];exact h1
 | ok s c1 =>
   rw[ho] at h1
   have h2:=cT N 1 [] c1 h1.2
   cases hn:tk 1 [] c1 with
   | bad a e=>rw[hn] at h2;rw[nX ho hn];exact h2
   | ok t c2 =>
     rw[hn] at h2
     have h3:=jI (Ae N) c2 h2.2
     cases hl:aJ iH c2 with
     | bad a e=>rw[hl] at h3;rw[mX ho hn hl];exact h3
     | ok l c3 =>
       rw[hl] at h3
       rw[qU ho hn hl]
       exact⟨⟨h2.1.1.1.1 h2.1.2,h3.1,h1.1.1.2⟩,h3.2⟩
theorem ym (N:Nat):gg N fo (fun l=>∀ z∈l,CY N z):=by
 intro c h
 unfold fo
 split
 ·exact⟨by simp,h⟩
 ·exact jN (Ab N) c h
theorem lW {N:Nat} {l:List kS} (h:∀ z∈l,CY N z) (hl:256<l.length):0<=dg l/\dg l<=N:=by
 unfold dg
 obtain⟨z,hz⟩:∃ z,l[256]? = some z:=⟨_,FD hl⟩
 rw[hz]
 exact⟨(h z (FC hz)).2.2.1,(h z (FC hz)).2.2.2⟩
theorem si {l:List kS} (h:l.length<=256):tT l=.ok (l.map (·.1)) []:=by
 unfold tT
 rw[qf h]
 rfl
theorem zu {N:Nat} {l:List kS} (h:∀ z∈l,CY N z) (hl:256<l.length):tT l=.bad (dg l) 100:=by
 unfold tT
 rw[if_pos (lW h hl).1]
theorem tw {N:Nat} {ts:List ak} (h:kp N ts):match fv ts with
 | .bad a e=>0<=a/\a<=N/\e≠0
 | .ok b _=>b.length<=256/\∀ c∈b,ai c.rel=true/\∀ u∈c.row,ax u.k u.n u.t=true/\bG u:=by
 have h1:=ym N ts h
 cases hc:fo ts with
 | bad a e=>rw[hc] at h1;rw[lU hc];exact h1
 | ok l c1 =>
   rw[hc] at h1
   have h2:=cT N 0 [] c1 h1.2
   cases ht:tk 0 [] c1 with
   | bad a e=>rw[ht] at h2;rw[lS hc ht];exact h2
   | ok u c2 =>
     rw[lG hc ht]
     by_cases hl:256<l.length
     ·rw[zu h1.1 hl]
      have:=lW h1.1 hl
      exact⟨this.1,this.2,by decide⟩
     ·rw[si (by omega)]
      refine⟨by rw[List.length_map];omega,fun c hcm=>?_⟩
      obtain⟨z,hz,rfl⟩:=List.mem_map.1 hcm
      have:=h1.1 z hz
      exact⟨this.1,this.2.1⟩
theorem xY {u:Vl} (hv:ax u.k u.n u.t=true) (hr:bG u):ig iH id bB u:=by
 intro y p ts hy hl
 obtain⟨k,n,s⟩:=u
 refine⟨⟨2,aW k n s,k,n,s,p⟩::ts,⟨k,n,s⟩,Bq hv hr.1 hr.2 hy hl,?_,rfl,by simp [cV]⟩
 unfold iH
 simp [tk]
theorem Ex {a:Bool} {y:List UInt8} {p:Nat} {ts:List ak} (hd:au (bt y 0)=false) (h:LZ y (p+1) ts):LZ ((if a=true then (43:UInt8) else 45)::y) p (fG [if a=true then (43:UInt8) else 45] p::ts):=by
 cases a with
 | true =>
   have ho:aA ([(43:UInt8)]++y) p=(fG [43] p,0):=by simp [aA,bt,au,fG]
   exact kR (x:=[43]) ho rfl (by simp) (by simp [bt]) (by simp [bt,fZ]) h
 | false =>
   have b1:bt ((45:UInt8)::y) 1=bt y 0:=by simp [bt]
   have b0:bt ((45:UInt8)::y) 0=45:=by simp [bt]
   have ho:aA ([(45:UInt8)]++y) p=(fG [45] p,0):=by
    show aA ((45:UInt8)::y) p=_
    unfold aA
    rw[b1,b0,hd]
    simp [au,fG]
   exact kR (x:=[45]) ho rfl (by simp) (by simp [bt]) (by simp [bt,fZ]) h
theorem uQ {x y:List UInt8} (h:ai x=true):au (bt (x++y) 0)=false:=by
 unfold ai at h
 simp only[decide_eq_true_eq] at h
 rw[em h.1]
 have:=h.2.1
 unfold aR at this
 unfold au
 simp only[decide_eq_true_eq,decide_eq_false_iff_not] at this ⊢
 omega
theorem yE {c:eP} (h:eu c=true) (hr:∀ u∈c.row,bG u):ig eJ (fun z:kS=>z.1) cG c:=by
 obtain⟨hn,hb⟩:=pH h
 obtain⟨a,rel,row⟩:=c
 simp only at hn hb hr
 intro y p ts hy hl
 have e:cG ⟨a,rel,row⟩++y=(if a=true then (43:UInt8) else 45)::(rel++(40::(Lib.join (row.map bB) [44,32]++41::y))):=by simp [cG,cz]
 have hlen:(cG ⟨a,rel,row⟩).length=1+rel.length+1+(Lib.join (row.map bB) [44,32]).length+1:=by
  simp [cG,cz]
  omega
 rw[hlen] at hl
 obtain⟨toks,zs,k1,k2,k3⟩:=jF oe row y (p+1+rel.length) ts (fun u hu=>xY ((gh hb).2 u hu) (hr u hu)) (by rw[show p+1+rel.length+1+(Lib.join (row.map bB) [44,32]).length+1=p+(1+rel.length+1+(Lib.join (row.map bB) [44,32]).length+1) by omega];exact hl)
 have hw:=pZ (p:=p+1) hn (by simp [hU,bt,aR,au]) k1
 have hs:=Ex (a:=a) (p:=p) (uQ hn) hw
 have hz:zs=row:=by simpa using k2
 subst hz
 refine⟨fG [if a=true then (43:UInt8) else 45] p::kM rel (p+1)::fG [40] (p+1+rel.length)::toks,(⟨a,rel,zs⟩,(p:Int)),?_,?_,rfl,by cases a<;>simp [cV,fG]⟩
 ·rw[e]
  exact hs
 ·have e1:tk 3 lz (fG [if a=true then (43:UInt8) else 45] p::kM rel (p+1)::fG [40] (p+1+rel.length)::toks)=.ok (fG [if a=true then (43:UInt8) else 45] p) (kM rel (p+1)::fG [40] (p+1+rel.length)::toks):=by
   cases a<;>simp [tk,fG]
  have e2:tk 1 [] (kM rel (p+1)::fG [40] (p+1+rel.length)::toks)=.ok (kM rel (p+1)) (fG [40] (p+1+rel.length)::toks):=by simp [tk,kM]
  rw[qU e1 e2 k3]
  cases a<;>simp [jn,fG,kM]
theorem lO {b:List eP} (hb:∀ c∈b,eu c=true) (hr:qC b) (p0:Nat:=0):∃ (ts:List ak) (l:List kS) (c1:List ak) (u:ak),LZ (Lib.join (b.map cG) [44,32]) p0 ts/\fo ts=.ok l c1/\tk 0 [] c1=.ok u c1/\l.map (·.1)=b:=by
 have e2:∀ n,tk 0 [] [aF n]=.ok (aF n) [aF n]:=fun n=>by simp [tk,aF]
 cases b with
 | nil =>
   refine⟨[aF p0],[],[aF p0],aF p0,?_,?_,e2 p0,rfl⟩
   ·rw[List.map_nil,Lib.join_nil]
    exact vA p0
   ·unfold fo
    rw[if_pos (by rfl)]
 | cons c b =>
   obtain⟨toks,zs,k1,k2,k3,_⟩:=jA kD c b [] p0 [aF (p0+(Lib.join ((c::b).map cG) [44,32]).length)] (fun z hz=>yE (hb z hz) (hr z hz)) (by simp [hU,bt,aR,au]) (by simp [cV,aF]) (vA _)
   rw[List.append_nil] at k1
   refine⟨toks,zs,[aF (p0+(Lib.join ((c::b).map cG) [44,32]).length)],aF (p0+(Lib.join ((c::b).map cG) [44,32]).length),k1,?_,e2 _,k2⟩
   unfold fo
   refine (if_neg ?_).trans k3
   intro he
   cases toks with
   | nil =>
     unfold aQ eJ at k3
     simp [tk] at k3
   | cons t r =>
     have h0:t.k=0:=by simpa [Cs] using he
     unfold aQ at k3
     rw[kg (show tk 3 lz (t::r)=.bad t.p 80 by simp [tk,h0])] at k3
     cases k3
