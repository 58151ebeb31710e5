/- Texts that are cut into tokens and read back: names, marks, literals, lists; plainly. What query.Shape and Show tell, plainly; a right query's text is read back. What is read of a query is right, and a fault's place stands in the line: plainly. -/
import Derived.Test.YtamjadghncnbcaaGreatDoorLcO
import Derived.Test.YtamjadghncnbcaaGreatDoorLfO
import Derived.Test.YtamjadghncnbcaaGreatDoorGaO
import Derived.Test.YtamjadghncnbcaaGreatDoorGbO
import Derived.Test.YtamjadghncnbcaaGreatDoorGmO
import Derived.Test.YtamjadghncnbcaaGreatDoorGcO
import Derived.Lib.Join
import Derived.Lib.ItoaLen
namespace Go.Proofs.YtamjadghncnbcaaGreatDoor
open Go.RowKit
set_option linter.unusedVariables false
def LZ (r:List UInt8) (p:Nat) (ts:List Tok):Prop:=LX r p=⟨ts,0,0⟩
def nmZ (x:List UInt8) (p:Nat):Tok:=⟨1,x,0,0,[],p⟩
def mkZ (x:List UInt8) (p:Nat):Tok:=⟨3,x,0,0,[],p⟩
def sepZ (y:List UInt8):Prop:=(letB (bt y 0) || digB (bt y 0))=false
theorem lz_end (p:Nat):LZ [] p [endTok p]:=LX_end (.inl rfl)
theorem lz_sp {y:List UInt8} {p:Nat} {ts:List Tok} (h:LZ y (p+1) ts):LZ (32::y) p ts:=by
 unfold LZ at h ⊢
 rw[LX_blank (by simp [bt]) (by simp [bt,spB])]
 simpa using h
theorem lz_one {x y:List UInt8} {p:Nat} {ts:List Tok} {t:Tok} (ho:oneS (x++y) p=(t,0)) (hx:t.x=x) (hne:x≠[]) (h35:bt x 0≠35) (hsp:spB (bt x 0)=false) (h:LZ y (p+x.length) ts):LZ (x++y) p (t::ts):=by
 unfold LZ at h ⊢
 rw[LX_one (not_end_app hne h35) (by rw[bt0_app hne];exact hsp) (by rw[ho]),ho]
 simp only[hx,List.drop_left]
 rw[h]
 simp
theorem lz_nm {x y:List UInt8} {p:Nat} {ts:List Tok} (hx:isNameB x=true) (hy:sepZ y) (h:LZ y (p+x.length) ts):LZ (x++y) p (nmZ x p::ts):=by
 unfold isNameB at hx
 simp only[decide_eq_true_eq] at hx
 obtain⟨h1,h2,h3,h4⟩:=hx
 have hb:∀ c:Int,letB c=true->c≠35/\spB c=false/\c≠58/\c≠34/\digB c=false/\c≠45/\c≠40/\c≠41/\c≠44/\c≠43:=by
  intro c hc
  unfold letB at hc
  unfold spB digB
  simp only[decide_eq_true_eq,decide_eq_false_iff_not] at hc ⊢
  omega
 obtain⟨c1,c2,c3,c4,c5,c6,c7,c8,c9,c10⟩:=hb _ h2
 have hr:nameRun (x++y)=x.length:=nameRun_app (x:=x) (y:=y) (rest:=[]) (by rw[List.append_nil];exact h3) (fun e=>by unfold sepZ at hy;rw[hy] at e;cases e)
 have ho:oneS (x++y) p=(nmZ x p,0):=by
  have b0:=bt0_app (y:=y) h1
  unfold oneS
  rw[b0,if_neg c3,if_neg (by rw[c5];simp [c4,c6]),if_neg (by simp [c6,c7,c8,c9,c10]),if_pos h2,if_neg (by omega),hr,List.take_left]
  rfl
 exact lz_one ho rfl h1 c1 c2 h
theorem lz_mk {c:UInt8} {y:List UInt8} {p:Nat} {ts:List Tok} (hc:c=40∨c=41∨c=44) (h:LZ y (p+1) ts):LZ (c::y) p (mkZ [c] p::ts):=by
 have ho:oneS ([c]++y) p=(mkZ [c] p,0):=by
  rcases hc with rfl | rfl | rfl<;>simp [oneS,bt,digB,mkZ]
 refine lz_one (x:=[c]) ho rfl (by simp) ?_ ?_ h
 ·rcases hc with rfl | rfl | rfl<;>simp [bt]
 ·rcases hc with rfl | rfl | rfl<;>simp [bt,spB]
theorem lz_turn {y:List UInt8} {p:Nat} {ts:List Tok} (h:LZ y (p+2) ts):LZ (58::45::y) p (mkZ [58,45] p::ts):=by
 have ho:oneS ([58,45]++y) p=(mkZ [58,45] p,0):=by simp [oneS,bt,mkZ]
 exact lz_one (x:=[58,45]) ho rfl (by simp) (by simp [bt]) (by simp [bt,spB]) h
theorem scan_showR {k n:Int} {t:List UInt8} (h:validB k n t=true) (h0 : -9223372036854775808<=n) (h1:n<=9223372036854775807):scanR (showR k n t) 0=⟨k,n,t,(showR k n t).length,0⟩/\showR k n t≠[]/\(bt (showR k n t) 0=34∨digB (bt (showR k n t) 0)=true∨bt (showR k n t) 0=45/\digB (bt (showR k n t) 1)=true/\2<=(showR k n t).length):=by
 unfold showR
 rw[if_pos h]
 simp only[validB,decide_eq_true_eq] at h
 rcases h with ⟨rfl,rfl⟩ | ⟨rfl,rfl,ht⟩
 ·rw[if_pos rfl]
  refine⟨scan_itoa n h0 h1,?_,?_⟩
  ·rcases itoa_cases n with ⟨u,_,e⟩ | ⟨u,_,_,e⟩
   ·rw[e];exact dec_ne u
   ·rw[e];simp
  ·have hn:=(tok_itoa n).2.2.1
   unfold numAt at hn
   simp only[decide_eq_true_eq] at hn
   rcases hn with ⟨_,h2⟩ | ⟨h1,h2,h3⟩
   ·exact .inr (.inl h2)
   ·exact .inr (.inr ⟨h2,h3,h1⟩)
 ·rw[if_neg (by decide)]
  refine⟨?_,by simp,.inl (by simp [bt])⟩
  rw[scanR_text]
  unfold textR
  rw[textScan_show]
  simp only
  rw[if_neg (by omega)]
  simp only[List.length_cons,List.length_append,List.length_nil]
  congr 1
  omega
theorem lz_lit {k n:Int} {t y:List UInt8} {p:Nat} {ts:List Tok} (hv:validB k n t=true) (h0 : -9223372036854775808<=n) (h1:n<=9223372036854775807) (hy:sepZ y) (h:LZ y (p+(showR k n t).length) ts):LZ (showR k n t++y) p (⟨2,showR k n t,k,n,t,p⟩::ts):=by
 obtain⟨e1,e2,e3⟩:=scan_showR hv h0 h1
 have hd:digB (bt y 0)=false:=by
  unfold sepZ at hy
  cases hd:digB (bt y 0) with
  | false=>rfl
  | true=>rw[hd] at hy;simp at hy
 generalize showR k n t=S at *
 have hst:=(scan_stable (r:=S) (x:=S) (rest:=[]) (y:=y) (by simp) e2 (by rw[e1]) (by rw[e1]) (fun e=>by rw[hd] at e;cases e)).1
 rw[e1] at hst
 have b0:=bt0_app (y:=y) e2
 have hl:litS (S++y) p=(⟨2,S,k,n,t,p⟩,0):=by
  unfold litS
  rw[hst,if_pos rfl]
  simp
 have h58:bt (S++y) 0≠58:=by
  rw[b0]
  rcases e3 with e | e | ⟨e,_⟩
  ·omega
  ·intro e'
   rw[e'] at e
   simp [digB] at e
  ·omega
 have hq:bt (S++y) 0=34∨digB (bt (S++y) 0)=true∨bt (S++y) 0=45/\digB (bt (S++y) 1)=true:=by
  rw[b0]
  rcases e3 with e | e | ⟨e,e',e''⟩
  ·exact .inl e
  ·exact .inr (.inl e)
  ·refine .inr (.inr ⟨e,?_⟩)
   have:bt (S++y) 1=bt S 1:=by
    match S,e'' with
    | a::b::l,_=>simp [bt]
   rw[this]
   exact e'
 have ho:oneS (S++y) p=(⟨2,S,k,n,t,p⟩,0):=by
  unfold oneS
  rw[if_neg h58,if_pos hq]
  exact hl
 refine lz_one ho rfl e2 ?_ ?_ h
 ·rcases e3 with e | e | ⟨e,_⟩
  ·omega
  ·intro e'
   rw[e'] at e
   simp [digB] at e
  ·omega
 ·rcases e3 with e | e | ⟨e,_⟩
  ·rw[e];rfl
  ·unfold digB at e
   unfold spB
   simp only[decide_eq_true_eq,decide_eq_false_iff_not] at e ⊢
   omega
  ·rw[e];rfl
section
variable {α β : Type}
def Reads (P:List Tok->PR β) (C:β->α) (T:α->List UInt8) (x:α):Prop :=
 ∀ (y:List UInt8) (p:Nat) (ts:List Tok),sepZ y->LZ y (p+(T x).length) ts->∃ (pre:List Tok) (z:β),LZ (T x++y) p pre/\P pre=.ok z ts/\C z=x/\isM [41] pre=false
theorem sep_tail {l:List (List UInt8)} {y:List UInt8} (hy:sepZ y):sepZ (Lib.joinTail [44,32] l++y):=by
 cases l with
 | nil=>simpa [Lib.joinTail] using hy
 | cons d r=>simp [sepZ,Lib.joinTail,bt,letB,digB]
theorem tail_reads {P:List Tok->PR β} {C:β->α} {T:α->List UInt8} (hl:Less P):∀ (xs:List α) (y:List UInt8) (p:Nat) (ts:List Tok),(∀ x∈xs,Reads P C T x)->sepZ y->isM [44] ts=false->LZ y (p+(Lib.joinTail [44,32] (xs.map T)).length) ts ->
 ∃ (toks:List Tok) (zs:List β),LZ (Lib.joinTail [44,32] (xs.map T)++y) p toks/\zs.map C=xs/\∀ ys,restP P ys toks=.ok (ys++zs) ts
 | [],y,p,ts,_,hy,hm,h=>⟨ts,[],by simpa [Lib.joinTail] using h,rfl,fun ys=>by rw[restP_end ys hm,List.append_nil]⟩
 | x::xs,y,p,ts,hr,hy,hm,h=>by
   have e:Lib.joinTail [44,32] ((x::xs).map T)++y=44::32::(T x++(Lib.joinTail [44,32] (xs.map T)++y)):=by
    simp [Lib.joinTail]
   have hlen:(Lib.joinTail [44,32] ((x::xs).map T)).length=1+1+(T x).length+(Lib.joinTail [44,32] (xs.map T)).length:=by
    simp [Lib.joinTail]
    omega
   obtain⟨toks,zs,k1,k2,k3⟩:=tail_reads hl xs y (p+1+1+(T x).length) ts (fun z hz=>hr z (List.mem_cons_of_mem _ hz)) hy hm (by rw[hlen] at h;rw[show p+1+1+(T x).length+(Lib.joinTail [44,32] (xs.map T)).length=p+(1+1+(T x).length+(Lib.joinTail [44,32] (xs.map T)).length) by omega];exact h)
   obtain⟨pre,z,j1,j2,j3,_⟩:=hr x List.mem_cons_self _ (p+1+1) toks (sep_tail hy) k1
   refine⟨mkZ [44] p::pre,z::zs,?_,by rw[List.map_cons,j3,k2],fun ys=>?_⟩
   ·rw[e]
    exact lz_mk (.inr (.inr rfl)) (lz_sp j1)
   ·have:=restP_ok hl ys (c:=mkZ [44] p::pre) (c1:=toks) (x:=z) (by simp [isM,mkZ]) (by simpa using j2)
    rw[this.1,k3]
    simp
theorem some_reads {P:List Tok->PR β} {C:β->α} {T:α->List UInt8} (hl:Less P) (x:α) (xs:List α) (y:List UInt8) (p:Nat) (ts:List Tok) (hr:∀ z∈x::xs,Reads P C T z) (hy:sepZ y) (hm:isM [44] ts=false) (h:LZ y (p+(Lib.join ((x::xs).map T) [44,32]).length) ts) :
 ∃ (toks:List Tok) (zs:List β),LZ (Lib.join ((x::xs).map T) [44,32]++y) p toks/\zs.map C=x::xs/\someP P toks=.ok zs ts/\isM [41] toks=false:=by
 rw[List.map_cons,Lib.join_cons] at h ⊢
 rw[List.length_append,<-Nat.add_assoc] at h
 obtain⟨toks,zs,k1,k2,k3⟩:=tail_reads hl xs y (p+(T x).length) ts (fun z hz=>hr z (List.mem_cons_of_mem _ hz)) hy hm h
 obtain⟨pre,z,j1,j2,j3,j4⟩:=hr x List.mem_cons_self _ p toks (sep_tail hy) k1
 refine⟨pre,z::zs,?_,by rw[List.map_cons,j3,k2],?_,j4⟩
 ·rw[List.append_assoc]
  exact j1
 ·rw[some_ok j2,k3]
  rfl
theorem list_reads {P:List Tok->PR β} {C:β->α} {T:α->List UInt8} (hl:Less P) (xs:List α) (y:List UInt8) (p:Nat) (ts:List Tok) (hr:∀ z∈xs,Reads P C T z) (h:LZ y (p+1+(Lib.join (xs.map T) [44,32]).length+1) ts) :
 ∃ (toks:List Tok) (zs:List β),LZ (40::(Lib.join (xs.map T) [44,32]++41::y)) p (mkZ [40] p::toks)/\zs.map C=xs/\listP P (mkZ [40] p::toks)=.ok zs ts:=by
 have e1:∀ r,tk 3 [[40]] (mkZ [40] p::r)=.ok (mkZ [40] p) r:=fun r=>by simp [tk,mkZ]
 cases xs with
 | nil =>
   refine⟨mkZ [41] (p+1)::ts,[],?_,rfl,?_⟩
   ·rw[List.map_nil,Lib.join_nil] at h ⊢
    exact lz_mk (.inl rfl) (lz_mk (.inr (.inl rfl)) h)
   ·have:=list_none (P:=P) (e1 (mkZ [41] (p+1)::ts)) (by simp [isM,mkZ])
    simpa using this
 | cons x xs =>
   obtain⟨toks,zs,k1,k2,k3,k4⟩:=some_reads hl x xs (41::y) (p+1) (mkZ [41] (p+1+(Lib.join ((x::xs).map T) [44,32]).length)::ts) hr (by simp [sepZ,bt,letB,digB]) (by simp [isM,mkZ]) (lz_mk (.inr (.inl rfl)) h)
   refine⟨toks,zs,lz_mk (.inl rfl) k1,k2,?_⟩
   exact list_ok (u:=mkZ [41] (p+1+(Lib.join ((x::xs).map T) [44,32]).length)) (e1 toks) k4 k3 (by simp [tk,mkZ])
end
def badTm (t:Trm):Bool:=if t.x=[] then !validB t.k t.n t.t else decide (t.vl≠⟨0,0,[]⟩)
def badNt (t:Trm):Bool:=decide (t.x≠[]) && !isNameB t.x
def badNa (a:Atm):Bool := !isNameB a.rel || a.ts.any badNt
def badNq (q:Qry):Bool:=(!isNameB q.name || q.head.any fun h => !isNameB h) || q.atoms.any badNa
def wideA (a:Atm):Bool:=decide (5<a.ts.length)
def chkQ (q:Qry):Int :=
 if badNq q=true then 72 else if (q.atoms.any fun a=>a.ts.any badTm)=true then 21 else if q.atoms.length=0∨6<q.atoms.length then 90 else if q.atoms.any wideA=true then 91 else if 0<=dupI q.head then 92 else if 0<=lackI (qVars q.atoms) q.head then 93 else 0
def tmT (t:Trm):List UInt8:=if t.x=[] then showR t.k t.n t.t else t.x
def atT (a:Atm):List UInt8:=a.rel++40::(Lib.join (a.ts.map tmT) [44,32]++[41])
def qT (q:Qry):List UInt8:=q.name++40::(Lib.join (q.head.map id) [44,32]++41::32::58::45::32::Lib.join (q.atoms.map atT) [44,32])
def showQ (q:Qry):List UInt8:=if chkQ q=0 then qT q else []
def RangeQ (q:Qry):Prop:=∀ a∈q.atoms,∀ t∈a.ts,-9223372036854775808<=t.n/\t.n<=9223372036854775807
structure RightQ (q:Qry):Prop where
 name:isNameB q.name=true
 head:∀ h∈q.head,isNameB h=true
 rel:∀ a∈q.atoms,isNameB a.rel=true
 var:∀ a∈q.atoms,∀ t∈a.ts,t.x≠[]->isNameB t.x=true/\t.vl=⟨0,0,[]⟩
 lit:∀ a∈q.atoms,∀ t∈a.ts,t.x=[]->validB t.k t.n t.t=true
 some:q.atoms≠[]
 few:q.atoms.length<=6
 thin:∀ a∈q.atoms,a.ts.length<=5
 dup:¬ 0<=dupI q.head
 lack:¬ 0<=lackI (qVars q.atoms) q.head
theorem chkQ_right {q:Qry} (h:chkQ q=0):RightQ q:=by
 unfold chkQ at h
 split at h
 ·cases h
 rename_i h1
 split at h
 ·cases h
 rename_i h2
 split at h
 ·cases h
 rename_i h3
 split at h
 ·cases h
 rename_i h4
 split at h
 ·cases h
 rename_i h5
 split at h
 ·cases h
 rename_i h6
 have n1:badNq q=false:=by simpa using h1
 unfold badNq at n1
 rw[Bool.or_eq_false_iff,Bool.or_eq_false_iff] at n1
 obtain⟨⟨n2,n3⟩,n4⟩:=n1
 have t1:(q.atoms.any fun a=>a.ts.any badTm)=false:=by simpa using h2
 have w1:q.atoms.any wideA=false:=by simpa using h4
 have hA:∀ a∈q.atoms,isNameB a.rel=true/\∀ t∈a.ts,badNt t=false:=fun a ha=>by
  have:=List.any_eq_false.1 n4 a ha
  have e:badNa a=false:=by simpa using this
  unfold badNa at e
  rw[Bool.or_eq_false_iff] at e
  refine⟨by simpa using e.1,fun t ht=>?_⟩
  have:=List.any_eq_false.1 e.2 t ht
  simpa using this
 have hT:∀ a∈q.atoms,∀ t∈a.ts,badTm t=false:=fun a ha t ht=>by
  have:=List.any_eq_false.1 t1 a ha
  have e:a.ts.any badTm=false:=by simpa using this
  have:=List.any_eq_false.1 e t ht
  simpa using this
 refine⟨by simpa using n2,fun h hh=>?_,fun a ha=>(hA a ha).1,fun a ha t ht hx=>⟨?_,?_⟩,fun a ha t ht hx=>?_,fun e=>h3 (.inl (by rw[e];rfl)),by omega,fun a ha=>?_,h5,h6⟩
 ·have:=List.any_eq_false.1 n3 h hh
  simpa using this
 ·have:=(hA a ha).2 t ht
  unfold badNt at this
  rw[Bool.and_eq_false_iff] at this
  rcases this with e | e
  ·simp at e;exact absurd e hx
  ·simpa using e
 ·have:=hT a ha t ht
  unfold badTm at this
  rw[if_neg hx] at this
  simpa using this
 ·have:=hT a ha t ht
  unfold badTm at this
  rw[if_pos hx] at this
  simpa using this
 ·have:=List.any_eq_false.1 w1 a ha
  unfold wideA at this
  simpa using this
theorem right_chkQ {q:Qry} (h:RightQ q):chkQ q=0:=by
 have hA:∀ a∈q.atoms,badNa a=false:=fun a ha=>by
  unfold badNa
  rw[h.rel a ha]
  simp only[Bool.not_true,Bool.false_or]
  refine List.any_eq_false.2 fun t ht=>?_
  unfold badNt
  by_cases hx:t.x=[]
  ·simp [hx]
  ·rw[(h.var a ha t ht hx).1]
   simp
 have hN:badNq q=false:=by
  unfold badNq
  rw[h.name]
  simp only[Bool.not_true,Bool.false_or,Bool.or_eq_false_iff]
  refine⟨List.any_eq_false.2 fun x hx=>by rw[h.head x hx];decide,List.any_eq_false.2 fun a ha=>by rw[hA a ha];decide⟩
 have hT:(q.atoms.any fun a=>a.ts.any badTm)=false:=List.any_eq_false.2 fun a ha=>by
  have:a.ts.any badTm=false:=List.any_eq_false.2 fun t ht=>by
   unfold badTm
   by_cases hx:t.x=[]
   ·rw[if_pos hx,h.lit a ha t ht hx]
    decide
   ·rw[if_neg hx,(h.var a ha t ht hx).2]
    decide
  rw[this]
  decide
 have hW:q.atoms.any wideA=false:=List.any_eq_false.2 fun a ha=>by
  unfold wideA
  have:=h.thin a ha
  simp
  omega
 have h0:¬ (q.atoms.length=0∨6<q.atoms.length):=by
  rintro (e | e)
  ·exact h.some (List.length_eq_zero_iff.1 e)
  ·have:=h.few
   omega
 unfold chkQ
 rw[if_neg (by rw[hN];decide),if_neg (by rw[hT];decide),if_neg h0,if_neg (by rw[hW];decide),if_neg h.dup,if_neg h.lack]
theorem name_reads {h:List UInt8} (hn:isNameB h=true):Reads nameP (fun z:List UInt8 × Int=>z.1) id h:=by
 intro y p ts hy hl
 refine⟨nmZ h p::ts,(h,p),lz_nm hn hy hl,?_,rfl,by simp [isM,nmZ]⟩
 unfold nameP
 simp [tk,nmZ]
theorem term_reads {t:Trm} (hv:t.x≠[]->isNameB t.x=true/\t.vl=⟨0,0,[]⟩) (hlt:t.x=[]->validB t.k t.n t.t=true) (h0 : -9223372036854775808<=t.n) (h1:t.n<=9223372036854775807):Reads termP (fun z:Trm × Int=>z.1) tmT t:=by
 obtain⟨x,k,n,s⟩:=t
 intro y p ts hy hl
 by_cases hx:x=[]
 ·subst hx
  have hvv:=hlt rfl
  unfold tmT at hl ⊢
  simp only[if_true] at hl ⊢
  refine⟨⟨2,showR k n s,k,n,s,p⟩::ts,(⟨[],k,n,s⟩,p),lz_lit hvv h0 h1 hy hl,?_,rfl,by simp [isM]⟩
  unfold termP
  simp [litT,tk]
 ·obtain⟨h2,h3⟩:=hv hx
  unfold tmT at hl ⊢
  simp only[hx,if_false] at hl ⊢
  simp only[Trm.vl,Vl.mk.injEq] at h3
  obtain⟨rfl,rfl,rfl⟩:=h3
  refine⟨nmZ x p::ts,(⟨x,0,0,[]⟩,p),lz_nm h2 hy hl,?_,rfl,by simp [isM,nmZ]⟩
  unfold termP
  simp [litT,tk,nmZ]
theorem atom_reads {a:Atm} (hr:isNameB a.rel=true) (ht:∀ t∈a.ts,Reads termP (fun z:Trm × Int=>z.1) tmT t):Reads atomP convA atT a:=by
 intro y p ts hy hl
 have e:atT a++y=a.rel++(40::(Lib.join (a.ts.map tmT) [44,32]++41::y)):=by simp [atT]
 have hlen:(atT a).length=a.rel.length+1+(Lib.join (a.ts.map tmT) [44,32]).length+1:=by
  simp [atT]
  omega
 rw[hlen] at hl
 obtain⟨toks,zs,k1,k2,k3⟩:=list_reads term_less a.ts y (p+a.rel.length) ts ht (by rw[show p+a.rel.length+1+(Lib.join (a.ts.map tmT) [44,32]).length+1=p+(a.rel.length+1+(Lib.join (a.ts.map tmT) [44,32]).length+1) by omega];exact hl)
 have hw:=lz_nm (p:=p) hr (by simp [sepZ,bt,letB,digB]) k1
 have hn:nameP (nmZ a.rel p::mkZ [40] (p+a.rel.length)::toks)=.ok (a.rel,(p:Int)) (mkZ [40] (p+a.rel.length)::toks):=by
  unfold nameP
  simp [tk,nmZ]
 have hp:atomP (nmZ a.rel p::mkZ [40] (p+a.rel.length)::toks)=.ok ((a.rel,(p:Int)),zs) ts:=by
  unfold atomP
  rw[hn]
  simp only[k3]
 refine⟨_,((a.rel,(p:Int)),zs),?_,hp,?_,by simp [isM,nmZ]⟩
 ·rw[e]
  exact hw
 ·simp only[convA]
  rw[k2]
theorem nodup_len:∀ (l m:List (List UInt8)),l.Nodup->(∀ x∈l,x∈m)->l.length<=m.length
 | [],m,_,_=>Nat.zero_le _
 | x::l,m,hn,hs=>by
   have hx:=hs x List.mem_cons_self
   have h1:=List.nodup_cons.1 hn
   have h2:=nodup_len l (m.erase x) h1.2 (fun y hy=>(List.mem_erase_of_ne (fun (e:y=x)=>h1.1 (by rw[<-e];exact hy))).2 (hs y (List.mem_cons_of_mem _ hy)))
   have h3:=List.length_erase_of_mem hx
   have h4:=List.length_pos_of_mem hx
   rw[List.length_cons]
   omega
theorem dup_nodup:∀ (l seen:List (List UInt8)) (i:Nat),¬ 0<=dupG seen l i->l.Nodup/\∀ x∈l,x ∉ seen
 | [],seen,i,_=>⟨List.nodup_nil,by simp⟩
 | x::l,seen,i,h=>by
   unfold dupG at h
   split at h
   ·exact absurd (Int.natCast_nonneg i) h
   ·rename_i hx
    obtain⟨h1,h2⟩:=dup_nodup l _ _ h
    refine⟨List.nodup_cons.2 ⟨fun hm=>h2 x hm (by simp),h1⟩,fun y hy=>?_⟩
    rcases List.mem_cons.1 hy with rfl | hy
    ·exact hx
    ·exact fun hm=>h2 y hy (by simp [hm])
theorem lack_all {V l:List (List UInt8)} (h:¬ 0<=lackI V l):∀ s∈l,s∈V:=by
 intro s hs
 by_cases hm:s∈V
 ·exact hm
 ·exfalso
  apply h
  unfold lackI idxP
  cases hf:(l.map strC).findIdx? (fun x=>match x with
   | [.string b] => !decide (b.data.toList∈V)
   | _=>false) with
  | none =>
    rw[List.findIdx?_eq_none_iff] at hf
    have:=hf (strC s) (List.mem_map.2 ⟨s,hs,rfl⟩)
    simp [strC,hm] at this
  | some i=>exact Int.natCast_nonneg i
theorem qVars_small (q:Qry):(qVars q.atoms).length<=tsum q.atoms:=by
 have:∀ (al:List Atm) (o:List (List UInt8)),(al.foldl (fun o a=>(atomVars a.ts).foldl addN o) o).length<=o.length+tsum al:=by
  intro al
  induction al with
  | nil=>intro o;simp
  | cons a al ih =>
    intro o
    have h1:=ih ((atomVars a.ts).foldl addN o)
    have h2:=foldl_len addN addN_len o (atomVars a.ts)
    have h3:=atomVars_len a.ts
    simp only[List.foldl_cons,tsum,List.map_cons,List.sum_cons] at h1 ⊢
    omega
 have:=this q.atoms []
 simpa [qVars] using this
theorem tsum_thin:∀ (al:List Atm),(∀ a∈al,a.ts.length<=5)->tsum al<=5 * al.length
 | [],_=>by simp [tsum]
 | a::al,h=>by
   have h1:=tsum_thin al fun b hb=>h b (List.mem_cons_of_mem _ hb)
   have h2:=h a List.mem_cons_self
   simp only[tsum,List.map_cons,List.sum_cons,List.length_cons] at h1 ⊢
   omega
theorem RightQ.heads {q:Qry} (h:RightQ q):q.head.length<=30:=by
 have h1:=nodup_len q.head (qVars q.atoms) (dup_nodup q.head [] 0 h.dup).1 (lack_all h.lack)
 have h2:=qVars_small q
 have h3:=tsum_thin q.atoms h.thin
 have h4:=h.few
 omega
theorem qT_reads {q:Qry} (h:RightQ q) (hr:RangeQ q):∃ ts,LZ (qT q) 0 ts/\queryT ts=.ok q []:=by
 have hat:∀ a∈q.atoms,Reads atomP convA atT a:=fun a ha=>atom_reads (h.rel a ha) fun t ht=>term_reads (h.var a ha t ht) (h.lit a ha t ht) (hr a ha t ht).1 (hr a ha t ht).2
 have hhd:∀ x∈q.head,Reads nameP (fun z:List UInt8 × Int=>z.1) id x:=fun x hx=>name_reads (h.head x hx)
 obtain⟨a0,al,hal⟩:∃ a0 al,q.atoms=a0::al:=by
  cases he:q.atoms with
  | nil=>exact absurd he h.some
  | cons a l=>exact⟨a,l,rfl⟩
 obtain⟨P1,hP1⟩:∃ P1:Nat,P1=0+q.name.length+1+(Lib.join (q.head.map id) [44,32]).length+1:=⟨_,rfl⟩
 obtain⟨t2,z2,k1,k2,k3,_⟩:=some_reads atom_less a0 al [] (P1+1+2+1) [endTok (P1+1+2+1+(Lib.join ((a0::al).map atT) [44,32]).length)] (by rw[<-hal];exact hat) (by simp [sepZ,bt,letB,digB]) (by simp [isM,endTok]) (lz_end _)
 rw[List.append_nil] at k1
 have m1:=lz_sp (p:=P1) (lz_turn (lz_sp k1))
 obtain⟨t1,z1,j1,j2,j3⟩:=list_reads name_less q.head (32::58::45::32::Lib.join ((a0::al).map atT) [44,32]) (0+q.name.length) (mkZ [58,45] (P1+1)::t2) hhd (by rw[<-hP1];exact m1)
 have hw:=lz_nm (p:=0) h.name (by simp [sepZ,bt,letB,digB]) j1
 refine⟨nmZ q.name 0::mkZ [40] (0+q.name.length)::t1,?_,?_⟩
 ·unfold qT
  rw[hal]
  exact hw
 ·have e0:nameP (nmZ q.name 0::mkZ [40] (0+q.name.length)::t1)=.ok (q.name,((0:Nat):Int)) (mkZ [40] (0+q.name.length)::t1):=by
   unfold nameP
   simp [tk,nmZ]
  have e1:tk 3 [[58,45]] (mkZ [58,45] (P1+1)::t2)=.ok (mkZ [58,45] (P1+1)) t2:=by simp [tk,mkZ]
  have e2:∀ n,tk 0 [] [endTok n]=.ok (endTok n) [endTok n]:=fun n=>by simp [tk,endTok]
  have hq:qryOf (q.name,((0:Nat):Int)) z1 z2=q:=by
   unfold qryOf
   have:z2.map (fun a=>(⟨a.1.1,a.2.map (·.1)⟩:Atm))=q.atoms:=by rw[hal];exact k2
   rw[this,j2]
  have hlim:limP z2=none:=by
   have hl:z2.length<=6:=by
    have:z2.length=(a0::al).length:=by rw[<-k2,List.length_map]
    rw[this,<-hal]
    exact h.few
   have hg:∀ l:List AtP,(∀ a∈l,a.2.length<=5)->limG l=none:=by
    intro l
    induction l with
    | nil=>intro _;rfl
    | cons b r ih =>
      intro hb
      unfold limG
      rw[List.getElem?_eq_none (hb b List.mem_cons_self)]
      exact ih fun a ha=>hb a (List.mem_cons_of_mem _ ha)
   unfold limP
   rw[List.getElem?_eq_none (by omega)]
   refine hg z2 fun a ha=>?_
   have h1:convA a∈q.atoms:=by
    rw[hal,<-k2]
    exact List.mem_map.2 ⟨a,ha,rfl⟩
   have:=h.thin _ h1
   simpa [convA] using this
  unfold queryT
  rw[e0]
  simp only[j3,e1,k3,e2]
  unfold chkP
  rw[hlim]
  simp only
  rw[hq,j2,decide_eq_false h.dup,decide_eq_false h.lack]
  generalize z1[(dupI q.head).toNat]? = A
  generalize z1[(lackI (qVars q.atoms) q.head).toNat]? = B
  rcases A with _ | x<;>rcases B with _ | y<;>rfl
theorem join_len {b:Nat} (l:List (List UInt8)) (h:∀ x∈l,x.length<=b):(Lib.join l [44,32]).length<=(b+2) * l.length:=by
 cases l with
 | nil=>simp [Lib.join_nil]
 | cons x r =>
   have hl:∀ r:List (List UInt8),(∀ x∈r,x.length<=b)->Lib.lens r<=b * r.length:=by
    intro r
    induction r with
    | nil=>intro _;simp [Lib.lens]
    | cons y r ih =>
      intro hr
      have h3:=ih fun z hz=>hr z (List.mem_cons_of_mem _ hz)
      have h4:=hr y List.mem_cons_self
      simp only[Lib.lens,List.map_cons,List.sum_cons,List.length_cons,Nat.mul_succ] at h3 ⊢
      omega
   have h1:=hl r fun z hz=>h z (List.mem_cons_of_mem _ hz)
   have h2:=h x List.mem_cons_self
   rw[Lib.join_cons,List.length_append,Lib.joinTail_length]
   simp only[List.length_cons,List.length_nil,Nat.add_mul,Nat.mul_succ]
   omega
theorem showR_len {k n:Int} {t:List UInt8} (hv:validB k n t=true) (h0 : -9223372036854775808<=n) (h1:n<=9223372036854775807):(showR k n t).length<=258:=by
 unfold showR
 rw[if_pos hv]
 simp only[validB,decide_eq_true_eq] at hv
 rcases hv with ⟨rfl,rfl⟩ | ⟨rfl,rfl,ht⟩
 ·rw[if_pos rfl]
  rcases itoa_cases n with ⟨u,hu,e⟩ | ⟨u,_,hu,e⟩
  ·rw[e,Lib.decDigits_length]
   have:=Lib.nDigits_le20 u (by omega)
   omega
  ·rw[e,List.length_cons,Lib.decDigits_length]
   have:=Lib.nDigits_le20 u (by omega)
   omega
 ·rw[if_neg (by decide)]
  have:=showT_len t
  simp only[List.length_cons,List.length_append,List.length_nil]
  omega
theorem name_len16 {x:List UInt8} (h:isNameB x=true):1<=x.length/\x.length<=16:=by
 unfold isNameB at h
 simp only[decide_eq_true_eq] at h
 exact⟨List.length_pos_iff.2 h.1,h.2.2.2⟩
theorem tmT_len {q:Qry} (h:RightQ q) (hr:RangeQ q):∀ a∈q.atoms,∀ t∈a.ts,(tmT t).length<=258:=fun a ha t ht=>by
 unfold tmT
 by_cases hx:t.x=[]
 ·rw[if_pos hx]
  exact showR_len (h.lit a ha t ht hx) (hr a ha t ht).1 (hr a ha t ht).2
 ·rw[if_neg hx]
  have:=name_len16 (h.var a ha t ht hx).1
  omega
theorem atT_len {q:Qry} (h:RightQ q) (hr:RangeQ q):∀ a∈q.atoms,(Lib.join (a.ts.map tmT) [44,32]).length<=1300/\(atT a).length<=1318:=fun a ha=>by
 have h1:=join_len (b:=258) (a.ts.map tmT) (fun x hx=>by
  obtain⟨t,ht,rfl⟩:=List.mem_map.1 hx
  exact tmT_len h hr a ha t ht)
 have h2:=h.thin a ha
 have h3:=name_len16 (h.rel a ha)
 rw[List.length_map] at h1
 have h4:(Lib.join (a.ts.map tmT) [44,32]).length<=1300:=by omega
 refine⟨h4,?_⟩
 unfold atT
 simp only[List.length_append,List.length_cons,List.length_nil]
 omega
theorem qT_len {q:Qry} (h:RightQ q) (hr:RangeQ q):1<=(qT q).length/\(qT q).length<=16384/\(Lib.join (q.head.map id) [44,32]).length<=540/\(Lib.join (q.atoms.map atT) [44,32]).length<=7920:=by
 have h1:=join_len (b:=1318) (q.atoms.map atT) (fun x hx=>by
  obtain⟨a,ha,rfl⟩:=List.mem_map.1 hx
  exact (atT_len h hr a ha).2)
 have h2:=join_len (b:=16) (q.head.map id) (fun x hx=>by
  obtain⟨a,ha,rfl⟩:=List.mem_map.1 hx
  exact (name_len16 (h.head a ha)).2)
 have h3:=h.heads
 have h4:=h.few
 have h5:=name_len16 h.name
 rw[List.length_map] at h1 h2
 have h6:(Lib.join (q.head.map id) [44,32]).length<=540:=by omega
 have h7:(Lib.join (q.atoms.map atT) [44,32]).length<=7920:=by omega
 unfold qT
 simp only[List.length_append,List.length_cons]
 exact⟨by omega,by omega,h6,h7⟩
theorem qT_back {q:Qry} (h:RightQ q) (hr:RangeQ q):(lexR (qT q)).e=0/\queryT (lexR (qT q)).ts=.ok q []:=by
 obtain⟨ts,h1,h2⟩:=qT_reads h hr
 rw[lexR_short (qT_len h hr).2.1]
 unfold LZ at h1
 rw[h1]
 exact⟨rfl,h2⟩
def LitOkQ (t:Tok):Prop:=validB t.vk t.vn t.vt=true /\ -9223372036854775808<=t.vn/\t.vn<=9223372036854775807
def TokOkQ (N:Nat) (t:Tok):Prop:=((t.k=1->isNameB t.x=true)/\(t.k=2->LitOkQ t))/\0<=t.p/\t.p<=N
def TInvQ (N:Nat) (c:List Tok):Prop:=(∀ t∈c,TokOkQ N t)/\Ended c
theorem TInvQ.next {N:Nat} {t:Tok} {r:List Tok} (h:TInvQ N (t::r)) (hk:t.k≠0):TInvQ N r:=⟨fun u hu=>h.1 u (List.mem_cons_of_mem _ hu),h.2.cons hk⟩
section
variable {α : Type} {N : Nat}
def SurePQ (N:Nat) (Q:α->Prop):PR α->Prop
 | .bad a e=>0<=a/\a<=N/\e≠0
 | .ok x c=>Q x/\TInvQ N c
def SureQ (N:Nat) (P:List Tok->PR α) (Q:α->Prop):Prop:=∀ c,TInvQ N c->SurePQ N Q (P c)
theorem tk_sureQ (N:Nat) (k:Int) (xs:List (List UInt8)):SureQ N (tk k xs) (fun t=>TokOkQ N t/\t.k=k):=by
 intro c h
 cases c with
 | nil=>exact h.2.elim
 | cons t r =>
   have ht:=h.1 t List.mem_cons_self
   show SurePQ N _ (if t.k=k/\(xs=[]∨t.x∈xs) then .ok t (if k=0 then t::r else r) else .bad t.p 80)
   split
   ·rename_i hc
    refine⟨⟨ht,hc.1⟩,?_⟩
    split
    ·exact h
    ·rename_i hk
     exact h.next (by rw[hc.1];exact hk)
   ·exact⟨ht.2.1,ht.2.2,by decide⟩
theorem more_sureQ {P:List Tok->PR α} {Q:α->Prop} (hP:SureQ N P Q):∀ f,SureQ N (moreP P f) (fun xs=>∀ x∈xs,Q x)
 | 0,c,h=>⟨by simp,h⟩
 | f+1,c,h=>by
   unfold moreP
   split
   ·rename_i him
    have hd:TInvQ N (c.drop 1):=by
     obtain⟨t,r,rfl⟩:=h.2.some
     have hh:t.k=3/\t.x=[44]:=by simpa [isM] using him
     exact h.next (by rw[hh.1];decide)
    have h1:=hP (c.drop 1) hd
    cases ho:P (c.drop 1) with
    | bad a e=>rw[ho] at h1;exact h1
    | ok x c1 =>
      rw[ho] at h1
      have h2:=more_sureQ hP f c1 h1.2
      simp only
      cases hm:moreP P f c1 with
      | bad a e=>rw[hm] at h2;exact h2
      | ok xs c2 =>
        rw[hm] at h2
        refine⟨fun y hy=>?_,h2.2⟩
        rcases List.mem_cons.1 hy with rfl | hy
        ·exact h1.1
        ·exact h2.1 y hy
   ·exact⟨by simp,h⟩
theorem some_sureQ {P:List Tok->PR α} {Q:α->Prop} (hP:SureQ N P Q):SureQ N (someP P) (fun xs=>∀ x∈xs,Q x):=by
 intro c h
 have h1:=hP c h
 unfold someP
 cases ho:P c with
 | bad a e=>rw[ho] at h1;exact h1
 | ok x c1 =>
   rw[ho] at h1
   have h2:=more_sureQ hP c1.length c1 h1.2
   simp only
   cases hm:moreP P c1.length c1 with
   | bad a e=>rw[hm] at h2;exact h2
   | ok xs c2 =>
     rw[hm] at h2
     refine⟨fun y hy=>?_,h2.2⟩
     rcases List.mem_cons.1 hy with rfl | hy
     ·exact h1.1
     ·exact h2.1 y hy
theorem list_sureQ {P:List Tok->PR α} {Q:α->Prop} (hP:SureQ N P Q):SureQ N (listP P) (fun xs=>∀ x∈xs,Q x):=by
 intro c h
 have h1:=tk_sureQ N 3 [[40]] c h
 unfold listP
 cases ho:tk 3 [[40]] c with
 | bad a e=>rw[ho] at h1;exact h1
 | ok t c1 =>
   rw[ho] at h1
   simp only
   have h2:SurePQ N (fun xs=>∀ x∈xs,Q x) (if isM [41] c1=true then (.ok [] c1:PR (List α)) else someP P c1):=by
    split
    ·exact⟨by simp,h1.2⟩
    ·exact some_sureQ hP c1 h1.2
   cases hm:(if isM [41] c1=true then (.ok [] c1:PR (List α)) else someP P c1) with
   | bad a e=>rw[hm] at h2;exact h2
   | ok xs c2 =>
     rw[hm] at h2
     have h3:=tk_sureQ N 3 [[41]] c2 h2.2
     simp only
     cases hk:tk 3 [[41]] c2 with
     | bad a e=>rw[hk] at h3;exact h3
     | ok u c3=>rw[hk] at h3;exact⟨h2.1,h3.2⟩
end
theorem name_sureQ (N:Nat):SureQ N nameP (fun x=>isNameB x.1=true/\0<=x.2/\x.2<=N):=by
 intro c h
 have h1:=tk_sureQ N 1 [] c h
 unfold nameP
 cases ho:tk 1 [] c with
 | bad a e=>rw[ho] at h1;exact h1
 | ok t c1 =>
   rw[ho] at h1
   exact⟨⟨h1.1.1.1.1 h1.1.2,h1.1.1.2⟩,h1.2⟩
def GoodTm (N:Nat) (x:Trm × Int):Prop:=(x.1.x≠[]->isNameB x.1.x=true/\x.1.vl=⟨0,0,[]⟩)/\(x.1.x=[]->validB x.1.k x.1.n x.1.t=true)/\(-9223372036854775808<=x.1.n/\x.1.n<=9223372036854775807)/\0<=x.2/\x.2<=N
theorem term_sureQ (N:Nat):SureQ N termP (GoodTm N):=by
 intro c h
 unfold termP
 split
 ·have h1:=tk_sureQ N 2 [] c h
  cases ho:tk 2 [] c with
  | bad a e=>rw[ho] at h1;exact h1
  | ok t c1 =>
    rw[ho] at h1
    have hl:=h1.1.1.1.2 h1.1.2
    exact⟨⟨fun e=>absurd rfl e,fun _=>hl.1,hl.2,h1.1.1.2⟩,h1.2⟩
 ·have h1:=tk_sureQ N 1 [] c h
  cases ho:tk 1 [] c with
  | bad a e=>rw[ho] at h1;exact h1
  | ok t c1 =>
    rw[ho] at h1
    have hn:=h1.1.1.1.1 h1.1.2
    have hne:t.x≠[]:=fun e=>by rw[e] at hn;revert hn;decide
    exact⟨⟨fun _=>⟨hn,rfl⟩,fun e=>absurd e hne,⟨by simp,by simp⟩,h1.1.1.2⟩,h1.2⟩
def GoodAt (N:Nat) (x:AtP):Prop:=(isNameB x.1.1=true/\0<=x.1.2/\x.1.2<=N)/\∀ t∈x.2,GoodTm N t
theorem atom_sureQ (N:Nat):SureQ N atomP (GoodAt N):=by
 intro c h
 have h1:=name_sureQ N c h
 unfold atomP
 cases ho:nameP c with
 | bad a e=>rw[ho] at h1;exact h1
 | ok t c1 =>
   rw[ho] at h1
   have h2:=list_sureQ (term_sureQ N) c1 h1.2
   simp only
   cases hm:listP termP c1 with
   | bad a e=>rw[hm] at h2;exact h2
   | ok u c2 =>
     rw[hm] at h2
     exact⟨⟨h1.1,h2.1⟩,h2.2⟩
theorem limG_good {N:Nat}:∀ {l:List AtP} {x:Int × Int},(∀ a∈l,GoodAt N a)->limG l=some x->0<=x.1/\x.1<=N/\x.2≠0
 | [],x,_,h=>by cases h
 | a::l,x,hl,h=>by
   unfold limG at h
   cases h5:a.2[5]? with
   | some t =>
     rw[h5] at h
     simp only[Option.some.injEq] at h
     subst h
     have:=((hl a List.mem_cons_self).2 t (List.mem_of_getElem? h5)).2.2.2
     exact⟨this.1,this.2,show (91:Int)≠0 by decide⟩
   | none =>
     rw[h5] at h
     exact limG_good (fun b hb=>hl b (List.mem_cons_of_mem _ hb)) h
theorem chkP_sure {N:Nat} {n:List UInt8 × Int} {hs:List (List UInt8 × Int)} {l:List AtP} (hn:isNameB n.1=true) (hh:∀ x∈hs,isNameB x.1=true/\0<=x.2/\x.2<=N) (hl:∀ a∈l,GoodAt N a) (hne:l≠[]):match chkP n hs l with
 | .bad a e=>0<=a/\a<=N/\e≠0
 | .ok q _=>RightQ q/\RangeQ q:=by
 unfold chkP
 cases h6:limP l with
 | some x =>
   simp only
   unfold limP at h6
   cases h7:l[6]? with
   | some a =>
     rw[h7] at h6
     simp only[Option.some.injEq] at h6
     subst h6
     have:=(hl a (List.mem_of_getElem? h7)).1.2
     exact⟨this.1,this.2,show (90:Int)≠0 by decide⟩
   | none =>
     rw[h7] at h6
     exact limG_good hl h6
 | none =>
   simp only
   obtain⟨k1,k2⟩:=lim_small h6
   have hX:∀ (i:Nat) (h:List UInt8 × Int) (e:Int),e≠0->hs[i]? = some h->0<=h.2/\h.2<=N/\e≠0:=fun i h e he hi=>⟨(hh h (List.mem_of_getElem? hi)).2.1,(hh h (List.mem_of_getElem? hi)).2.2,he⟩
   by_cases hd0:0<=dupI (hs.map (·.1))
   ·obtain⟨j,hj,_,hjl⟩:=dup_range (hs.map (·.1)) [] 0 (show 0<=dupG [] (hs.map (·.1)) 0 from hd0)
    have hj2:dupI (hs.map (·.1))=(j:Int):=hj
    rw[List.length_map] at hjl
    have he:hs[(dupI (hs.map (·.1))).toNat]? = some (hs[j]'(by omega)):=by
     rw[hj2,Int.toNat_natCast]
     exact List.getElem?_eq_getElem (by omega)
    rw[he,decide_eq_true hd0]
    exact hX j _ 92 (by decide) (List.getElem?_eq_getElem (by omega))
   ·rw[decide_eq_false hd0]
    by_cases hl0:0<=lackI (qVars (qryOf n hs l).atoms) (hs.map (·.1))
    ·obtain⟨j,hj,hjl⟩:=idxP_range (xs:=(hs.map (·.1)).map strC) (show 0<=idxP _ ((hs.map (·.1)).map strC) from hl0)
     have hj2:lackI (qVars (qryOf n hs l).atoms) (hs.map (·.1))=(j:Int):=hj
     simp only[List.length_map] at hjl
     have he:hs[(lackI (qVars (qryOf n hs l).atoms) (hs.map (·.1))).toNat]? = some (hs[j]'hjl):=by
      rw[hj2,Int.toNat_natCast]
      exact List.getElem?_eq_getElem hjl
     rw[he,decide_eq_true hl0]
     generalize hs[(dupI (hs.map (·.1))).toNat]? = A
     rcases A with _ | x
     ·exact hX j _ 93 (by decide) (List.getElem?_eq_getElem hjl)
     ·exact hX j _ 93 (by decide) (List.getElem?_eq_getElem hjl)
    ·rw[decide_eq_false hl0]
     have hA:∀ a∈(qryOf n hs l).atoms,∃ z∈l,a=convA z:=fun a ha=>by
      rw[qryOf_atoms] at ha
      obtain⟨z,hz,rfl⟩:=List.mem_map.1 ha
      exact⟨z,hz,rfl⟩
     have hT:∀ a∈(qryOf n hs l).atoms,∀ t∈a.ts,∃ z,GoodTm N z/\t=z.1:=fun a ha t ht=>by
      obtain⟨z,hz,rfl⟩:=hA a ha
      simp only[convA] at ht
      obtain⟨y,hy,rfl⟩:=List.mem_map.1 ht
      exact⟨y,(hl z hz).2 y hy,rfl⟩
     have hd1:¬ 0<=dupI (qryOf n hs l).head:=hd0
     have hd2:¬ 0<=lackI (qVars (qryOf n hs l).atoms) (qryOf n hs l).head:=hl0
     suffices hfin:RightQ (qryOf n hs l)/\RangeQ (qryOf n hs l) by
      generalize hs[(dupI (hs.map (·.1))).toNat]? = A
      generalize hs[(lackI (qVars (qryOf n hs l).atoms) (hs.map (·.1))).toNat]? = B
      rcases A with _ | x<;>rcases B with _ | y<;>exact hfin
     refine⟨⟨hn,fun x hx=>?_,fun a ha=>?_,fun a ha t ht hx=>?_,fun a ha t ht hx=>?_,?_,?_,fun a ha=>?_,hd1,hd2⟩,fun a ha t ht=>?_⟩
     ·obtain⟨z,hz,rfl⟩:=List.mem_map.1 (show x∈hs.map (·.1) from hx)
      exact (hh z hz).1
     ·obtain⟨z,hz,rfl⟩:=hA a ha
      exact (hl z hz).1.1
     ·obtain⟨z,hz,rfl⟩:=hT a ha t ht
      exact hz.1 hx
     ·obtain⟨z,hz,rfl⟩:=hT a ha t ht
      exact hz.2.1 hx
     ·rw[qryOf_atoms]
      intro e
      exact hne (List.map_eq_nil_iff.1 e)
     ·rw[qryOf_atoms,List.length_map]
      exact k1
     ·obtain⟨z,hz,rfl⟩:=hA a ha
      simp only[convA,List.length_map]
      exact k2 z hz
     ·obtain⟨z,hz,rfl⟩:=hT a ha t ht
      exact hz.2.2.1
theorem some_ne {P:List Tok->PR AtP} {c c':List Tok} {l:List AtP} (h:someP P c=.ok l c'):l≠[]:=by
 unfold someP at h
 cases ho:P c with
 | bad a e=>rw[ho] at h;cases h
 | ok x c1 =>
   rw[ho] at h
   simp only at h
   cases hm:moreP P c1.length c1 with
   | bad a e=>rw[hm] at h;cases h
   | ok xs c2 =>
     rw[hm] at h
     simp only[PR.ok.injEq] at h
     rw[<-h.1]
     simp
theorem queryT_sure {N:Nat} {ts:List Tok} (h:TInvQ N ts):match queryT ts with
 | .bad a e=>0<=a/\a<=N/\e≠0
 | .ok q _=>RightQ q/\RangeQ q:=by
 have h1:=name_sureQ N ts h
 unfold queryT
 cases ho:nameP ts with
 | bad a e=>rw[ho] at h1;exact h1
 | ok n c1 =>
   rw[ho] at h1
   have h2:=list_sureQ (name_sureQ N) c1 h1.2
   simp only
   cases hl:listP nameP c1 with
   | bad a e=>rw[hl] at h2;exact h2
   | ok hs c2 =>
     rw[hl] at h2
     have h3:=tk_sureQ N 3 [[58,45]] c2 h2.2
     simp only
     cases hk:tk 3 [[58,45]] c2 with
     | bad a e=>rw[hk] at h3;exact h3
     | ok u c3 =>
       rw[hk] at h3
       have h4:=some_sureQ (atom_sureQ N) c3 h3.2
       simp only
       cases hm:someP atomP c3 with
       | bad a e=>rw[hm] at h4;exact h4
       | ok l c4 =>
         rw[hm] at h4
         have h5:=tk_sureQ N 0 [] c4 h4.2
         simp only
         cases hz:tk 0 [] c4 with
         | bad a e=>rw[hz] at h5;exact h5
         | ok v c5 =>
           simp only
           exact chkP_sure h1.1.1 h2.1 h4.1 (some_ne hm)
theorem run_nameQ {r:List UInt8} (hl:letB (bt r 0)=true) (hr:r≠[]) (h16:nameRun r<=16):isNameB (r.take (nameRun r))=true:=by
 have hp:=nameRun_pos hr hl
 have hle:=nameRun_le r
 have e:r.take (nameRun r)=r.takeWhile fun c=>letB c.toNat || digB c.toNat:=by
  have h1:=List.takeWhile_prefix (fun c:UInt8=>letB c.toNat || digB c.toNat) (l:=r)
  exact (List.prefix_iff_eq_take.1 h1).symm
 have hall:∀ c∈r.take (nameRun r),(letB c.toNat || digB c.toNat)=true:=by
  intro c hc
  rw[e] at hc
  exact List.all_eq_true.1 (List.all_takeWhile (p:=fun c:UInt8=>letB c.toNat || digB c.toNat) (l:=r)) c hc
 have hlen:(r.take (nameRun r)).length=nameRun r:=by rw[List.length_take];omega
 have hrun:nameRun (r.take (nameRun r))=(r.take (nameRun r)).length:=by
  have:=List.takeWhile_append_of_pos (p:=fun c:UInt8=>letB c.toNat || digB c.toNat) (l₁:=r.take (nameRun r)) (l₂:=[]) (by simpa using hall)
  rw[List.append_nil] at this
  show (List.takeWhile _ (r.take (nameRun r))).length=_
  rw[this]
  simp
 unfold isNameB
 simp only[decide_eq_true_eq]
 refine⟨?_,?_,hrun,by omega⟩
 ·intro e2
  rw[e2] at hlen
  simp at hlen
  omega
 ·have:=bt_take_app (l:=r) (y:=[]) (n:=nameRun r) (j:=0) (by omega) hle
  rw[List.append_nil] at this
  rw[this]
  exact hl
theorem one_litQ {r:List UInt8} {p:Int}:(oneS r p).2=0->(oneS r p).1.k=2->LitOkQ (oneS r p).1:=by
 have hs:=scan_good r
 unfold oneS litS
 repeat' split
 all_goals
  intro h g
  first
  | (simp at h;done)
  | (simp at g;done)
  | contradiction
  | (rename_i he;exact⟨(hs he).1,(hs he).2.1.1,(hs he).2.1.2⟩)
theorem LX_toksQ:∀ (m:Nat) (r:List UInt8) (p:Nat),r.length<=m->(LX r p).e=0->∀ t∈(LX r p).ts,((t.k=1->isNameB t.x=true)/\(t.k=2->LitOkQ t))/\(p:Int)<=t.p/\t.p<=((p+r.length:Nat):Int):=by
 intro m
 have hend:∀ (r:List UInt8) (p:Nat),r=[]∨bt r 0=35->∀ t∈(LX r p).ts,((t.k=1->isNameB t.x=true)/\(t.k=2->LitOkQ t))/\(p:Int)<=t.p/\t.p<=((p+r.length:Nat):Int):=by
  intro r p h t ht
  rw[LX_end h] at ht
  simp only[List.mem_singleton] at ht
  subst ht
  exact⟨⟨fun h=>by simp [endTok] at h,fun h=>by simp [endTok] at h⟩,by simp only[endTok];omega,by simp [endTok]⟩
 induction m with
 | zero =>
   intro r p h _
   exact hend r p (.inl (List.length_eq_zero_iff.1 (by omega)))
 | succ m ih =>
   intro r p h
   by_cases h0:r=[]∨bt r 0=35
   ·exact fun _=>hend r p h0
   ·have hr:r≠[]:=fun e=>h0 (.inl e)
    have hl:=List.length_pos_iff.2 hr
    by_cases hb:spB (bt r 0)=true
    ·rw[LX_blank h0 hb]
     intro he t ht
     have:=ih _ _ (by rw[List.length_drop];omega) he t ht
     rw[List.length_drop] at this
     exact⟨this.1,by omega,by omega⟩
    ·have hb':spB (bt r 0)=false:=by simpa using hb
     by_cases he:(oneS r p).2=0
     ·obtain⟨l1,_,l3⟩:=one_len he hr
      obtain⟨_,k2⟩:=one_kind he
      rw[LX_one h0 hb' he]
      split
      ·rename_i h9
       intro h8
       exact absurd h8 h9
      ·rename_i h9
       intro _ t ht
       simp only[List.mem_cons] at ht
       rcases ht with rfl | ht
       ·refine⟨⟨fun hk=>?_,fun hk=>one_litQ he hk⟩,by rw[k2];exact Int.le_refl _,by rw[k2];omega⟩
        obtain⟨a1,a2,a3⟩:=one_name he hk
        rw[a3]
        exact run_nameQ a1 hr a2
       ·have:=ih (r.drop (oneS r p).1.x.length) (p+(oneS r p).1.x.length) (by rw[List.length_drop];omega) (by simpa using h9) t ht
        rw[List.length_drop] at this
        exact⟨this.1,by omega,by omega⟩
     ·rw[LX_bad h0 hb' he]
      exact fun h=>absurd h he
theorem lex_toksQ {l:List UInt8} (h:(lexR l).e=0) (he:Ended (lexR l).ts):TInvQ l.length (lexR l).ts:=by
 by_cases hl:16384<l.length
 ·rw[lexR_long hl] at h
  exact absurd h (by decide)
 ·rw[lexR_short (by omega)] at h ⊢
  rw[lexR_short (by omega)] at he
  refine⟨fun t ht=>?_,he⟩
  have:=LX_toksQ _ l 0 (Nat.le_refl _) h t ht
  exact⟨this.1,by have:=this.2.1;omega,by have:=this.2.2;omega⟩
theorem lex_placeQ (l:List UInt8) (h:(lexR l).e≠0):0<=(lexR l).at_/\(lexR l).at_<=l.length:=by
 by_cases hl:16384<l.length
 ·rw[lexR_long hl]
  exact⟨by simp,by simp⟩
 ·rw[lexR_short (by omega)] at h ⊢
  obtain⟨n,ts,h1,h2,_⟩:=LX_fault _ l 0 (Nat.le_refl _) h
  rw[h1]
  exact⟨by omega,by omega⟩
end Go.Proofs.YtamjadghncnbcaaGreatDoor
