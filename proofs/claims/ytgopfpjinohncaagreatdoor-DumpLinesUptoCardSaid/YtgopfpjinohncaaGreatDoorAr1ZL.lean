/- Two arranged lists put together, plainly: the document's Arrange tells the same. The document's putting together of two arranged lists, step by step, plainly. osierref02.Arrange, walked (printed by mkard.py). -/
import Derived.Test.YtgopfpjinohncaaGreatDoorDm0ZL
import Derived.Test.YtgopfpjinohncaaGreatDoorDcpZL
import Derived.Test.YtgopfpjinohncaaGreatDoorInRlnZL
import Derived.Test.YtgopfpjinohncaaGreatDoorNaL
import Derived.Test.YtgopfpjinohncaaGreatDoorSkgZL
namespace Go.Proofs.YtgopfpjinohncaaGreatDoor
open Go.RowKit
set_option linter.unusedVariables false
def mrgP:Nat->List (List Vl)->List (List Vl)->List (List Vl)
 | 0,_,_=>[]
 | f+1,[],[]=>[]
 | f+1,x::a,[]=>x::mrgP f a []
 | f+1,[],y::b=>y::mrgP f [] b
 | f+1,x::a,y::b=>if cmpRow x y<0 then x::mrgP f a (y::b) else if cmpRow x y=0 then x::mrgP f a b else y::mrgP f (x::a) b
theorem mem_mrgP:∀ (f:Nat) (a b:List (List Vl)),a.length+b.length<=f->∀ z,z∈mrgP f a b ↔ z∈a∨z∈b
 | 0,[],[],_,z=>by simp [mrgP]
 | 0,_::_,_,h,_=>by simp at h
 | 0,[],_::_,h,_=>by simp at h
 | f+1,[],[],_,z=>by simp [mrgP]
 | f+1,x::a,[],h,z=>by
   have ih:=mem_mrgP f a [] (by simp at h ⊢;omega) z
   show z∈x::mrgP f a [] ↔ _
   rw[List.mem_cons,ih,List.mem_cons]
   simp
 | f+1,[],y::b,h,z=>by
   have ih:=mem_mrgP f [] b (by simp at h ⊢;omega) z
   show z∈y::mrgP f [] b ↔ _
   rw[List.mem_cons,ih,List.mem_cons]
   simp
 | f+1,x::a,y::b,h,z=>by
   simp only[List.length_cons] at h
   have i1:=mem_mrgP f a (y::b) (by simp only[List.length_cons];omega) z
   have i2:=mem_mrgP f a b (by omega) z
   have i3:=mem_mrgP f (x::a) b (by simp only[List.length_cons];omega) z
   show z∈(if cmpRow x y<0 then x::mrgP f a (y::b) else if cmpRow x y=0 then x::mrgP f a b else y::mrgP f (x::a) b) ↔ _
   by_cases h1:cmpRow x y<0
   ·rw[if_pos h1,List.mem_cons,i1,List.mem_cons,List.mem_cons]
    exact or_assoc.symm
   ·rw[if_neg h1]
    by_cases h2:cmpRow x y=0
    ·rw[if_pos h2,List.mem_cons,i2,List.mem_cons,List.mem_cons,cmpRow_eq _ _ h2]
     exact⟨fun q=>by rcases q with q | q | q<;>simp [q],fun q=>by rcases q with (q | q) | q | q<;>simp [q]⟩
    ·rw[if_neg h2,List.mem_cons,i3,List.mem_cons,List.mem_cons]
     exact⟨fun q=>by rcases q with q | (q | q) | q<;>simp [q],fun q=>by rcases q with (q | q) | q | q<;>simp [q]⟩
theorem mrgP_sorted:∀ (f:Nat) (a b:List (List Vl)),a.length+b.length<=f->SRw a->SRw b->SRw (mrgP f a b)
 | 0,[],[],_,_,_=>List.Pairwise.nil
 | 0,_::_,_,h,_,_=>by simp at h
 | 0,[],_::_,h,_,_=>by simp at h
 | f+1,[],[],_,_,_=>List.Pairwise.nil
 | f+1,x::a,[],h,ha,hb=>by
   have h1:=List.pairwise_cons.1 ha
   have hl:a.length+([]:List (List Vl)).length<=f:=by simp at h ⊢;omega
   refine List.pairwise_cons.2 ⟨fun z hz=>?_,mrgP_sorted f a [] hl h1.2 hb⟩
   rcases (mem_mrgP f a [] hl z).1 hz with q | q
   ·exact h1.1 z q
   ·simp at q
 | f+1,[],y::b,h,ha,hb=>by
   have h1:=List.pairwise_cons.1 hb
   have hl:([]:List (List Vl)).length+b.length<=f:=by simp at h ⊢;omega
   refine List.pairwise_cons.2 ⟨fun z hz=>?_,mrgP_sorted f [] b hl ha h1.2⟩
   rcases (mem_mrgP f [] b hl z).1 hz with q | q
   ·simp at q
   ·exact h1.1 z q
 | f+1,x::a,y::b,h,ha,hb=>by
   have ha1:=List.pairwise_cons.1 ha
   have hb1:=List.pairwise_cons.1 hb
   simp only[List.length_cons] at h
   show SRw (if cmpRow x y<0 then x::mrgP f a (y::b) else if cmpRow x y=0 then x::mrgP f a b else y::mrgP f (x::a) b)
   by_cases h1:cmpRow x y<0
   ·rw[if_pos h1]
    have hl:a.length+(y::b).length<=f:=by simp only[List.length_cons];omega
    refine List.pairwise_cons.2 ⟨fun z hz=>?_,mrgP_sorted f a (y::b) hl ha1.2 hb⟩
    rcases (mem_mrgP f a (y::b) hl z).1 hz with q | q
    ·exact ha1.1 z q
    ·rcases List.mem_cons.1 q with rfl | q
     ·exact h1
     ·exact cmpRow_trans _ _ _ h1 (hb1.1 z q)
   ·rw[if_neg h1]
    by_cases h2:cmpRow x y=0
    ·rw[if_pos h2]
     have e:=cmpRow_eq _ _ h2
     subst e
     have hl:a.length+b.length<=f:=by omega
     refine List.pairwise_cons.2 ⟨fun z hz=>?_,mrgP_sorted f a b hl ha1.2 hb1.2⟩
     rcases (mem_mrgP f a b hl z).1 hz with q | q
     ·exact ha1.1 z q
     ·exact hb1.1 z q
    ·rw[if_neg h2]
     have hyx:cmpRow y x<0:=by
      have:=cmpRow_anti x y
      omega
     have hl:(x::a).length+b.length<=f:=by simp only[List.length_cons];omega
     refine List.pairwise_cons.2 ⟨fun z hz=>?_,mrgP_sorted f (x::a) b hl ha hb1.2⟩
     rcases (mem_mrgP f (x::a) b hl z).1 hz with q | q
     ·rcases List.mem_cons.1 q with rfl | q
      ·exact hyx
      ·exact cmpRow_trans _ _ _ hyx (ha1.1 z q)
     ·exact hb1.1 z q
theorem arrP_halves (l:List (List Vl)) (k f:Nat) (hf:(arrP (l.take k)).length+(arrP (l.drop k)).length<=f):mrgP f (arrP (l.take k)) (arrP (l.drop k))=arrP l :=
 arrP_eq (mrgP_sorted f _ _ hf (arrP_sorted _) (arrP_sorted _)) fun z=>by
  rw[mem_mrgP f _ _ hf,mem_arrP,mem_arrP]
  conv=>rhs;rw[<-List.take_append_drop k l]
  rw[List.mem_append]
def MS (a b:List (List Vl)) (i j:Nat) (d:List (List Vl)):Prop :=
 ∃ f,(a.length - i)+(b.length - j)<=f/\d++mrgP f (a.drop i) (b.drop j)=mrgP (a.length+b.length) a b
theorem MS.start (a b:List (List Vl)):MS a b 0 0 []:=⟨_,Nat.le_refl _,by simp⟩
section
variable {a b d : List (List Vl)} {i j : Nat} {x y : List Vl}
theorem MS.lt (h:MS a b i j d) (hx:a[i]? = some x) (hy:b[j]? = some y) (hc:cmpRow x y<0):MS a b (i+1) j (d++[x]):=by
 obtain⟨f,hf,e⟩:=h
 obtain⟨hi,rfl⟩:=List.getElem?_eq_some_iff.1 hx
 obtain⟨hj,rfl⟩:=List.getElem?_eq_some_iff.1 hy
 obtain⟨g,rfl⟩:∃ g,f=g+1:=⟨f - 1,by omega⟩
 refine⟨g,by omega,?_⟩
 rw[<-e,List.drop_eq_getElem_cons hi,List.drop_eq_getElem_cons hj,List.append_assoc]
 conv=>rhs;unfold mrgP
 rw[if_pos hc]
 rfl
theorem MS.eq (h:MS a b i j d) (hx:a[i]? = some x) (hy:b[j]? = some y) (hc:cmpRow x y=0):MS a b (i+1) (j+1) (d++[x]):=by
 obtain⟨f,hf,e⟩:=h
 obtain⟨hi,rfl⟩:=List.getElem?_eq_some_iff.1 hx
 obtain⟨hj,rfl⟩:=List.getElem?_eq_some_iff.1 hy
 obtain⟨g,rfl⟩:∃ g,f=g+1:=⟨f - 1,by omega⟩
 refine⟨g,by omega,?_⟩
 rw[<-e,List.drop_eq_getElem_cons hi,List.drop_eq_getElem_cons hj,List.append_assoc]
 conv=>rhs;unfold mrgP
 rw[if_neg (by omega),if_pos hc]
 rfl
theorem MS.gt (h:MS a b i j d) (hx:a[i]? = some x) (hy:b[j]? = some y) (hc:0<cmpRow x y):MS a b i (j+1) (d++[y]):=by
 obtain⟨f,hf,e⟩:=h
 obtain⟨hi,rfl⟩:=List.getElem?_eq_some_iff.1 hx
 obtain⟨hj,rfl⟩:=List.getElem?_eq_some_iff.1 hy
 obtain⟨g,rfl⟩:∃ g,f=g+1:=⟨f - 1,by omega⟩
 refine⟨g,by omega,?_⟩
 rw[<-e,List.drop_eq_getElem_cons hi,List.drop_eq_getElem_cons hj,List.append_assoc]
 conv=>rhs;unfold mrgP
 rw[if_neg (by omega),if_neg (by omega)]
 rfl
theorem MS.left (h:MS a b i j d) (hx:a[i]? = some x) (hj:b.length<=j):MS a b (i+1) j (d++[x]):=by
 obtain⟨f,hf,e⟩:=h
 obtain⟨hi,rfl⟩:=List.getElem?_eq_some_iff.1 hx
 obtain⟨g,rfl⟩:∃ g,f=g+1:=⟨f - 1,by omega⟩
 refine⟨g,by omega,?_⟩
 rw[<-e,List.drop_eq_getElem_cons hi,List.drop_of_length_le hj,List.append_assoc]
 rfl
theorem MS.right (h:MS a b i j d) (hy:b[j]? = some y) (hi:a.length<=i):MS a b i (j+1) (d++[y]):=by
 obtain⟨f,hf,e⟩:=h
 obtain⟨hj,rfl⟩:=List.getElem?_eq_some_iff.1 hy
 obtain⟨g,rfl⟩:∃ g,f=g+1:=⟨f - 1,by omega⟩
 refine⟨g,by omega,?_⟩
 rw[<-e,List.drop_eq_getElem_cons hj,List.drop_of_length_le hi,List.append_assoc]
 rfl
theorem MS.done (h:MS a b i j d) (hi:a.length<=i) (hj:b.length<=j):d=mrgP (a.length+b.length) a b:=by
 obtain⟨f,hf,e⟩:=h
 rw[List.drop_of_length_le hi,List.drop_of_length_le hj] at e
 have:mrgP f ([]:List (List Vl)) []=[]:=by cases f<;>rfl
 rw[this,List.append_nil] at e
 exact e
theorem mrgP_len:∀ (f:Nat) (a b:List (List Vl)),(mrgP f a b).length<=f
 | 0,_,_=>Nat.le_refl _
 | f+1,[],[]=>Nat.zero_le _
 | f+1,x::a,[]=>Nat.succ_le_succ (mrgP_len f a [])
 | f+1,[],y::b=>Nat.succ_le_succ (mrgP_len f [] b)
 | f+1,x::a,y::b=>by
   unfold mrgP
   split
   ·exact Nat.succ_le_succ (mrgP_len f a _)
   ·split
    ·exact Nat.succ_le_succ (mrgP_len f a b)
    ·exact Nat.succ_le_succ (mrgP_len f _ b)
theorem MS.len (h:MS a b i j d):d.length<=a.length+b.length:=by
 obtain⟨f,hf,e⟩:=h
 have h1:=congrArg List.length e
 have h2:=mrgP_len (a.length+b.length) a b
 rw[List.length_append] at h1
 omega
end
theorem RwsO.sl1 {B:Nat} {w:World} {v:Value} {l:List (List Vl)} (h:RwsO B w v l):∃ a c,v=.slice a l.length c:=by
 obtain⟨R,h1,_⟩:=h
 exact own_sl h1
theorem own1_at {w:World} {B:Nat} {e:TypeId} {aa:Option Addr} {n cap:Nat} {R:List Value} (h:w.ownsRow B e 1 (.slice aa n cap) n R) {k:Nat} {x:Value} (hk:R[k]? = some x):∃ g,aa=some ⟨g,0,none⟩/\w.cell? ⟨g,k,none⟩=some x/\g<w.heap.size:=by
 have hl:=h.1
 have hkl:=(List.getElem?_eq_some_iff.1 hk).1
 have h2:=h
 rcases h2.2 with ⟨q,_⟩ | ⟨g,cap',cur,hv,_⟩
 ·simp only[Value.slice.injEq] at q
  omega
 ·simp only[Value.slice.injEq] at hv
  obtain⟨rfl,_,_⟩:=hv
  exact⟨g,rfl,own1_get h hk⟩
theorem arrP_one {l:List (List Vl)} (h:l.length<=1):arrP l=l:=by
 match l,h with
 | [],_=>rfl
 | [_],_=>rfl
 | _::_::_,h=>simp at h
set_option maxHeartbeats 4000000 in
set_option maxRecDepth 100000 in
theorem arrD_small (w:World) (v:Value) (l:List (List Vl)) (h:RowsAt w v l) (hl:l.length<=1) :
 Calls Tryz.prog 99 #[v] w fun e w'=>∃ v',e=.returned v'/\RwsO w.heap.size w' v' (arrP l)/\Below w.heap.size w w':=by
 rw[arrP_one hl]
 obtain⟨ad,cap,rfl,_,_⟩:=h.form
 have HC:=Lib.hid (copyRows_any w _ l h (by omega))
 have hd:decide ((l.length:Int)<=1)=true:=by simp;omega
 clear h
 generalize l.length=n at *
 go_enter Tryz.func99,Tryz.ntmps99
 go_wp2_with fail
 refine HC.out.mono ?_
 rintro e w1 ⟨v1,rfl,hr,hb⟩
 have HR:=Lib.hid (And.intro hr hb)
 clear hr hb
 go_wp2_with fail
 go_ret
 exact⟨_,rfl,HR.out⟩
set_option maxHeartbeats 16000000 in
set_option maxRecDepth 100000 in
theorem arrD_any (f:Nat):∀ (w:World) (v:Value) (l:List (List Vl)),l.length<=f->RowsAt w v l->l.length<=1099511627776->(∀ r∈l,∀ u∈r,u.t.length<=281474976710656) ->
 Calls Tryz.prog 99 #[v] w fun e w'=>∃ v',e=.returned v'/\RwsO w.heap.size w' v' (arrP l)/\Below w.heap.size w w':=by
 induction f with
 | zero=>exact fun w v l hf h _ _=>arrD_small w v l h (by omega)
 | succ f ih =>
   intro w v l hf h hn ht
   by_cases hs:l.length<=1
   ·exact arrD_small w v l h hs
   obtain⟨i0,hi0,hz0,hz1,hz2⟩:=info_parts Tryz.infoRow
   obtain⟨x0,hx0⟩:∃ x0,l[0]? = some x0:=⟨l[0]'(by omega),List.getElem?_eq_getElem (by omega)⟩
   obtain⟨b,off,cap,_,hv,hnc,hcm,_⟩:=h.get hx0
   subst hv
   unfold maxLen at hcm
   obtain⟨k,hk⟩:∃ k,l.length / 2=k:=⟨_,rfl⟩
   have hk1:1<=k:=by omega
   have hk2:k<l.length:=by omega
   have hl1:(l.take k).length=k:=by rw[List.length_take];omega
   have hl2:(l.drop k).length=l.length - k:=List.length_drop
   have IH1:=Lib.hid (fun W (hW:Below w.heap.size w W)=>ih W (.slice (some ⟨b,off,none⟩) k cap) (l.take k) (by omega) ((h.keep hW).take k (by omega)) (by omega) (fun r hr=>ht r (List.mem_of_mem_take hr)))
   have IH2:=Lib.hid (fun W (hW:Below w.heap.size w W)=>ih W (.slice (some ⟨b,off+k,none⟩) (l.length - k) (cap - k)) (l.drop k) (by omega) ((h.keep hW).drop k (by omega)) (by omega) (fun r hr=>ht r (List.mem_of_mem_drop hr)))
   have HHV:=Lib.hid (fun f hf=>arrP_halves l k f hf)
   have HT:Hid (∀ r∈arrP (l.take k),∀ u∈r,u.t.length<=281474976710656):=Lib.hid (fun r hr=>ht r (List.mem_of_mem_take (mem_arrP.1 hr)))
   have hA1:=arrP_len (l.take k)
   have hA2:=arrP_len (l.drop k)
   rw[hl1] at hA1
   rw[hl2] at hA2
   clear h ht hx0 hf ih
   generalize hN:l.length=n at *
   obtain⟨A,hA⟩:∃ A,arrP (l.take k)=A:=⟨_,rfl⟩
   obtain⟨B,hB⟩:∃ B,arrP (l.drop k)=B:=⟨_,rfl⟩
   obtain⟨R,hR⟩:∃ R,arrP l=R:=⟨_,rfl⟩
   rw[hA] at IH1 HT hA1
   rw[hB] at IH2 hA2
   rw[hA,hB,hR] at HHV
   rw[hR]
   clear hA hB hR
   obtain⟨an,han⟩:∃ an,A.length=an:=⟨_,rfl⟩
   obtain⟨bn,hbn⟩:∃ bn,B.length=bn:=⟨_,rfl⟩
   rw[han] at hA1
   rw[hbn] at hA2
   have HAN:=Lib.hid han
   have HBN:=Lib.hid hbn
   have hd0:decide ((n:Int)<=1)=false:=by simp;omega
   have hdq:IntKind.i64.wrap ((n:Int).tdiv 2)=(k:Int):=by rw[IntKind.wrap_i64,Int.tdiv_eq_ediv_of_nonneg (by omega)];omega
   have hdq2:(n:Int).tdiv 2=(k:Int):=by rw[Int.tdiv_eq_ediv_of_nonneg (by omega)];omega
   have hdq3:(n:Int) / 2=(k:Int):=by omega
   have hd1:decide ((k:Int)<0)=false:=by simp
   have hd2:decide ((cap:Int)<(k:Int))=false:=by simp;omega
   have hd3:decide ((n:Int)<(k:Int))=false:=by simp;omega
   have hwk:IntKind.i64.wrap (k:Int)=(k:Int):=by rw[IntKind.wrap_i64];omega
   have hwn:IntKind.i64.wrap (n:Int)=(n:Int):=by rw[IntKind.wrap_i64];omega
   have hwc:IntKind.i64.wrap (cap:Int)=(cap:Int):=by rw[IntKind.wrap_i64];omega
   have hki0:(0:Int)<=(k:Int):=by omega
   have hkic:(k:Int)<=(cap:Int):=by omega
   have hkin:(k:Int)<=(n:Int):=by omega
   have hnic:(n:Int)<=(cap:Int):=by omega
   have htk:((k:Int)).toNat=k:=by omega
   have hkn:k<=n:=by omega
   have hkc:k<=cap:=by omega
   have hlen:0<n:=by omega
   have hcne:¬ cap=k:=by omega
   clear hN hk hl1 hl2 han hbn hs
   go_enter Tryz.func99,Tryz.ntmps99
   go_upto_region 3 with fail
   obtain⟨SS,hSS⟩:∃ SS:World->Prop,SS=fun W=>True:=⟨_,rfl⟩
   have HSC:=Lib.hid (fun W (q:SS W)=>(by rw[hSS] at q;exact q:True))
   have HSI:=Lib.hid (fun W (q:True)=>(by rw[hSS];exact q:SS W))
   clear hSS
   have HSS:SS w.drew:=HSI.out _ (trivial)
   refine wp_region_held_drew (by kernel_rfl) HSS (fun _=>?_)
   refine Held.tk 0 14 HSS ?_
   refine Held.tk 1 15 HSS ?_
   refine Held.tk 2 16 HSS ?_
   refine Held.tk 3 17 HSS ?_
   refine Held.tk 4 18 HSS ?_
   refine Held.tk 6 20 HSS ?_
   refine Held.tk 7 21 HSS ?_
   refine Held.tk 8 22 HSS ?_
   refine Held.tk 9 23 HSS ?_
   refine Held.tk 10 24 HSS ?_
   refine Held.on 5 (fun K hK=>?_)
   go_simp
   refine (IH1.out _ (bdrew (Below.refl _ _))).mono ?_
   rintro e w1 ⟨v1,rfl,hr1,hb1⟩
   obtain⟨aa,ac,rfl⟩:=hr1.sl1
   rw[HAN.out] at hr1 ⊢
   have hb1':=bt2 (bdrew (Below.refl w.heap.size w)) hb1
   have HR1:=Lib.hid (show RwsO w.heap.size w1 (.slice aa an ac) A from hr1)
   have HB1:=Lib.hid hb1'
   clear HSS
   have HSS:=HSI.out w1 trivial
   refine hK.out _ _ HSS ?_
   clear hK K hr1 hb1 hb1' IH1
   try simp only[List.setIfInBounds_toArray,List.set_cons_succ,List.set_cons_zero]
   refine Held.on 11 (fun K hK=>?_)
   go_simp
   refine (IH2.out _ HB1.out).mono ?_
   rintro e w2 ⟨v2,rfl,hr2,hb2⟩
   obtain⟨ba,bc,rfl⟩:=hr2.sl1
   rw[HBN.out] at hr2 ⊢
   have HR2:=Lib.hid (hr2.low HB1.out.size)
   have HRA:=Lib.hid (HR1.out.mt (MT.ofBelow (B:=0) (Ts:=[]) hb2) (by simp) (by simp))
   have HB2:=Lib.hid (bt2 HB1.out hb2)
   clear HSS
   have HSS:=HSI.out w2 trivial
   refine hK.out _ _ HSS ?_
   clear hK K hr2 hb2 IH2 HR1
   try simp only[List.setIfInBounds_toArray,List.set_cons_succ,List.set_cons_zero]
   refine Held.tk 12 3 HSS ?_
   refine Held.tk 13 4 HSS ?_
   refine wpAnyH_done (by kernel_rfl) ?_ _
   clear HSS HSC HSI
   obtain⟨RA,ora,ala⟩:=HRA.out
   obtain⟨RB,orb,alb⟩:=HR2.out
   rw[HAN.out] at ora
   rw[HBN.out] at orb
   have HLA:=Lib.hid ala.length
   have HLB:=Lib.hid alb.length
   have ORA:=Lib.hid ora
   have ORB:=Lib.hid orb
   have ALA:=Lib.hid ala
   have ALB:=Lib.hid alb
   have hsz2:=HB2.out.size
   have hadd:IntKind.i64.wrap ((an:Int)+(bn:Int))=(an:Int)+(bn:Int):=by rw[IntKind.wrap_i64];omega
   clear ora orb ala alb HRA HR2
   go_wp2_with (at_make;refine wpList_make_own _ rfl _ _ 45 rfl w2.heap.size 59 i0 (.slice none 0 0) 1 Tryz.underlying45 hi0 hz0 hz1 _ _ _ (an+bn) rfl rfl ?m1 ?b2 ?b3 ?b4 ?_)
   case m1=>omega
   case b2=>rw[hz2];omega
   case b3=>unfold maxLen;omega
   case b4=>exact Nat.le_refl _
   intro w3 hown3 hgrow3
   have HO3:=Lib.hid hown3
   have HB3:=Lib.hid ((Below.refl w2.heap.size w2).grown hgrow3 (Nat.le_refl _) (fun q hq=>by cases hq))
   clear hown3 hgrow3
   go_wp2_with fail
   go_loopw [5,6,7] (fun ov iv jv wr=>∃ (i j:Nat) (d:List (List Vl)) (oa:Option Addr) (oc:Nat) (O:List Value),iv=.int .i64 i/\jv=.int .i64 j/\ov=.slice oa d.length oc/\i<=an/\j<=bn/\Hid (MS A B i j d)/\Hid (wr.ownsRow w2.heap.size 59 1 (.slice oa d.length oc) d.length O)/\Hid (All2 (RoO w.heap.size w2) O d)/\Hid (Below w2.heap.size w2 wr)) (fun _ iv jv _=>(an - (intOf iv).toNat)+(bn - (intOf jv).toNat))
   case atStart=>exact⟨0,0,[],some ⟨w2.heap.size,0,none⟩,an+bn,[],rfl,rfl,rfl,Nat.zero_le _,Nat.zero_le _,Lib.hid (MS.start A B),HO3,Lib.hid trivial,HB3⟩
   case round =>
    obtain⟨i,j,d,oa,oc,O,rfl,rfl,rfl,hi,hj,HM,HO,HX,HB⟩:=hrel
    obtain⟨wo,rfl⟩:∃ wo:World,wo=wr:=⟨_,rfl⟩
    have hdl:=HM.out.len
    rw[HAN.out,HBN.out] at hdl
    have mk:=MT.ofBelow (B:=0) (Ts:=[]) HB.out
    have OA:=Lib.hid (mk.ownsRow ORA.out (by simp))
    have OB:=Lib.hid (mk.ownsRow ORB.out (by simp))
    clear mk
    by_cases hend:i=an/\j=bn
    ·obtain⟨rfl,rfl⟩:=hend
     have he:=HM.out.done (by rw[HAN.out];exact Nat.le_refl _) (by rw[HBN.out];exact Nat.le_refl _)
     rw[HHV.out _ (Nat.le_refl _)] at he
     have hfin:RwsO w.heap.size wo (.slice oa d.length oc) d:=⟨O,World.ownsRow.low HO.out hsz2,HX.out.mono fun q a hh=>hh.mtAny (MT.ofBelow (B:=0) (Ts:=[]) HB.out) (by simp)⟩
     rw[he] at hfin
     have hbf:=HB2.out.trans (HB.out.mono hsz2)
     rw[<-he] at hfin
     have HFN:=Lib.hid hfin
     have HBF:=Lib.hid hbf
     have HE:=Lib.hid he
     clear he hfin hbf
     go_wp2_with fail
     go_ret
     refine⟨_,rfl,?_,HBF.out⟩
     rw[<-HE.out]
     exact HFN.out
    rcases Nat.lt_or_ge i an with hdi | hdi
    case' inl =>
     have hdi2:decide ((i:Int)<(an:Int))=true:=decide_eq_true (by omega)
     go_upto_region 7 with fail
     clear hdi hdi2
    case' inr =>
     have hni:¬ i<an:=by omega
     have hdj:j<bn:=by omega
     have hdi2:decide ((i:Int)<(an:Int))=false:=decide_eq_false (by omega)
     have hdj2:decide ((j:Int)<(bn:Int))=true:=decide_eq_true (by omega)
     clear hdi
     go_upto_region 7 with fail
     clear hni hdj hdi2 hdj2
    all_goals
     go_cut [8] from 32 to 80 (fun s wx=>s=.int .i64 1/\wo=wx)
     case first =>
      go_wp2_with fail
      go_meet
      exact⟨rfl,rfl⟩
     obtain⟨rfl,rfl⟩:=hcut
     rename_i KK hKK
     refine hKK _ _ ?_
     clear hKK KK
     refine wp_seq_k (fun KK hKK=>?_)
     go_cut [8] from 32 to 80 (fun cv wx=>∃ c:Int,cv=.int .i64 c/\Hid ((c<=0/\∃ x,A[i]? = some x/\MS A B (i+1) (if 0<=c then j+1 else j) (d++[x])/\(0<=c->j<bn))∨(0<c/\∃ y,B[j]? = some y/\MS A B i (j+1) (d++[y])))/\Hid (Below wo.heap.size wo wx))
     case first =>
      by_cases hjb:j=bn
      ·have hia:i<an:=by omega
       have hbe:((j:Int) == (bn:Int))=true:=by simp [hjb]
       have hbe2:(j == bn)=true:=by simp [hjb]
       have hbe3:decide (j=bn)=true:=by simp [hjb]
       obtain⟨x,hx⟩:∃ x,A[i]? = some x:=⟨A[i]'(by rw[HAN.out];exact hia),List.getElem?_eq_getElem (by rw[HAN.out];exact hia)⟩
       have HSX:=Lib.hid (HM.out.left hx (by rw[HBN.out];omega))
       have HXX:=Lib.hid hx
       clear hx
       go_wp2_with fail
       go_meet
       exact⟨-1,rfl,Lib.hid (.inl ⟨by decide,x,HXX.out,by rw[if_neg (by decide)];exact HSX.out,fun h=>absurd h (by decide)⟩),Lib.hid (Below.refl _ _)⟩
      have hbe:((j:Int) == (bn:Int))=false:=by
       rw[beq_eq_false_iff_ne]
       omega
      have hjl:j<bn:=by omega
      obtain⟨y,hy⟩:∃ y,B[j]? = some y:=⟨B[j]'(by rw[HBN.out];exact hjl),List.getElem?_eq_getElem (by rw[HBN.out];exact hjl)⟩
      clear hjb
      by_cases hia:i<an
      rotate_left
      ·have hdi:decide ((i:Int)<(an:Int))=false:=decide_eq_false (by omega)
       have HSX:=Lib.hid (HM.out.right hy (by rw[HAN.out];omega))
       have HYY:=Lib.hid hy
       clear hy
       go_wp2_with fail
       go_meet
       exact⟨1,rfl,Lib.hid (.inr ⟨by decide,y,HYY.out,HSX.out⟩),Lib.hid (Below.refl _ _)⟩
      have hdi:decide ((i:Int)<(an:Int))=true:=decide_eq_true (by omega)
      obtain⟨x,hx⟩:∃ x,A[i]? = some x:=⟨A[i]'(by rw[HAN.out];exact hia),List.getElem?_eq_getElem (by rw[HAN.out];exact hia)⟩
      obtain⟨xv,hxv,hxo⟩:=ALA.out.get hx
      obtain⟨yv,hyv,hyo⟩:=ALB.out.get hy
      obtain⟨ga,rfl,q0,hga⟩:=own1_at OA.out hxv
      obtain⟨gb,rfl,q1,hgb⟩:=own1_at OB.out hyv
      have HCP:=Lib.hid (fun W (hW:Below wo.heap.size wo W)=>refRowCompare_any W xv yv x y (RowAt.keep (RowAt.keep hxo.at_ HB.out) hW) (RowAt.keep (RowAt.keep hyo.at_ HB.out) hW) (HT.out x (List.mem_of_getElem? hx)))
      obtain⟨xa,xc,rfl⟩:=own_sl hxo.1
      obtain⟨ya,yc,rfl⟩:=own_sl hyo.1
      obtain⟨xn,hxn⟩:∃ xn,x.length=xn:=⟨_,rfl⟩
      obtain⟨yn,hyn⟩:∃ yn,y.length=yn:=⟨_,rfl⟩
      rw[hxn] at q0 HCP
      rw[hyn] at q1 HCP
      have HXY:=Lib.hid (And.intro hx hy)
      have HSF:=Lib.hid (show wo.cell? ⟨ga,i,none⟩=some (.slice xa xn xc)/\wo.cell? ⟨gb,j,none⟩=some (.slice ya yn yc)/\ga<wo.heap.size/\gb<wo.heap.size from ⟨q0,q1,hga,hgb⟩)
      have e1:decide ((i:Int)<0)=false:=by simp
      have e2:decide ((an:Int)<=(i:Int))=false:=by simp;omega
      have e3:decide ((j:Int)<0)=false:=by simp
      have e4:decide ((bn:Int)<=(j:Int))=false:=by simp;omega
      obtain⟨cc,hcc⟩:∃ cc,cmpRow x y=cc:=⟨_,rfl⟩
      rw[hcc] at HCP
      have HCC:=Lib.hid hcc
      clear hx hy hxv hyv hxo hyo hxn hyn q0 q1 hcc
      go_upto_region 11 with fail
      obtain⟨SS,hSS⟩:∃ SS:World->Prop,SS=fun W=>W.cell? ⟨ga,i,none⟩=some (.slice xa xn xc)/\W.cell? ⟨gb,j,none⟩=some (.slice ya yn yc)/\ga<W.heap.size/\gb<W.heap.size:=⟨_,rfl⟩
      have HSC:=Lib.hid (fun W (q:SS W)=>(by rw[hSS] at q;exact q:W.cell? ⟨ga,i,none⟩=some (.slice xa xn xc)/\W.cell? ⟨gb,j,none⟩=some (.slice ya yn yc)/\ga<W.heap.size/\gb<W.heap.size))
      have HSI:=Lib.hid (fun W (q:W.cell? ⟨ga,i,none⟩=some (.slice xa xn xc)/\W.cell? ⟨gb,j,none⟩=some (.slice ya yn yc)/\ga<W.heap.size/\gb<W.heap.size)=>(by rw[hSS];exact q:SS W))
      clear hSS
      have HSS:SS wo.drew:=HSI.out _ (HSF.out)
      refine wp_region_held_drew (by kernel_rfl) HSS (fun _=>?_)
      refine Held.tk 0 50 HSS ?_
      refine Held.tk 1 51 HSS ?_
      refine Held.tk 2 52 HSS ?_
      refine Held.tk 3 53 HSS ?_
      refine Held.tk 4 54 HSS ?_
      refine Held.on 5 (fun K hK=>?_)
      go_simp
      refine hK.out _ _ HSS ?_
      clear hK K
      try simp only[List.setIfInBounds_toArray,List.set_cons_succ,List.set_cons_zero]
      refine Held.on 6 (fun K hK=>?_)
      go_simp
      refine hK.out _ _ HSS ?_
      clear hK K
      try simp only[List.setIfInBounds_toArray,List.set_cons_succ,List.set_cons_zero]
      refine Held.tk 7 57 HSS ?_
      refine Held.on 8 (fun K hK=>?_)
      go_simp
      refine (HCP.out _ (bdrew (Below.refl _ _))).mono ?_
      rintro e w6 ⟨rfl,hb6⟩
      have hb7:Below wo.heap.size wo w6:=bt2 (bdrew (Below.refl _ _)) hb6
      have HB7:=Lib.hid hb7
      clear HSS
      have HSS:=HSI.out w6 ⟨(hb7.cell (p:=⟨ga,i,none⟩) HSF.out.2.2.1).trans HSF.out.1,(hb7.cell (p:=⟨gb,j,none⟩) HSF.out.2.2.2).trans HSF.out.2.1,Nat.lt_of_lt_of_le HSF.out.2.2.1 hb7.size,Nat.lt_of_lt_of_le HSF.out.2.2.2 hb7.size⟩
      refine hK.out _ _ HSS ?_
      clear hK K hb6 hb7 HCP
      try simp only[List.setIfInBounds_toArray,List.set_cons_succ,List.set_cons_zero]
      refine Held.tk 9 8 HSS ?_
      refine wpAnyH_done (by kernel_rfl) ?_ _
      clear HSS HSC HSI
      go_wp2_with fail
      go_meet
      refine⟨cc,rfl,Lib.hid ?_,HB7⟩
      have hc:=HCC.out
      rcases Int.lt_trichotomy cc 0 with h | h | h
      ·exact .inl ⟨by omega,x,HXY.out.1,by rw[if_neg (by omega)];exact HM.out.lt HXY.out.1 HXY.out.2 (by omega),fun h0=>by omega⟩
      ·exact .inl ⟨by omega,x,HXY.out.1,by rw[if_pos (by omega)];exact HM.out.eq HXY.out.1 HXY.out.2 (by omega),fun _=>hjl⟩
      ·exact .inr ⟨h,y,HXY.out.2,HM.out.gt HXY.out.1 HXY.out.2 (by omega)⟩
     case rest =>
      obtain⟨c,rfl,HS,HBC⟩:=hcut
      refine hKK _ _ ?_
      clear hKK KK
      have mc:=MT.ofBelow (B:=0) (Ts:=[]) HBC.out
      clear hend
      have HOC:=Lib.hid (mc.ownsRow HO.out (by simp))
      have HBD:=Lib.hid (HB.out.trans (HBC.out.mono HB.out.size))
      rcases HS.out with ⟨hc0,x,hx,hms,hjc⟩ | ⟨hc0,y,hy,hms⟩
      ·obtain⟨xv,hxv,hxo⟩:=ALA.out.get hx
       obtain⟨ga,rfl,q0,hga⟩:=own1_at (mc.ownsRow OA.out (by simp)) hxv
       obtain⟨xa,xc,rfl⟩:=own_sl hxo.1
       have hia:i<an:=by
        have:=(List.getElem?_eq_some_iff.1 hx).1
        rw[HAN.out] at this
        exact this
       have e1:decide ((i:Int)<0)=false:=by simp
       have e2:decide ((an:Int)<=(i:Int))=false:=by simp;omega
       have e5:decide (c<=0)=true:=decide_eq_true hc0
       have HXO:=Lib.hid hxo
       have HMS:=Lib.hid hms
       have HJC:=Lib.hid hjc
       clear hjc
       obtain⟨xn,hxn⟩:∃ xn,x.length=xn:=⟨_,rfl⟩
       rw[hxn] at q0
       have HXN:=Lib.hid hxn
       clear hx hxv hxo hms mc hxn
       go_wp2_with (at_builtin;refine wpList_append_lies _ rfl (.tmp 61) (.tmp 66) 45 rfl w2.heap.size 59 i0 (.slice none 0 0) 1 24 Tryz.underlying45 hi0 hz0 hz1 hz2 rfl (by decide) (.slice oa d.length oc) d.length _ rfl (World.ownsRow.alloc HOC.out _) ⟨_,0,none⟩ 1 1 [.slice xa xn xc] rfl rfl (World.news_of_block (Blk.new _ _ _)) (by simp [Value.oneCell']) (by decide) ?c3 ?c5 ?c4 _ rfl ?_)
       case c3=>unfold maxLen;omega
       case c5=>omega
       case c4=>have:=HBD.out.size;simp;omega
       intro g cap1 w5 hown5 hgrow5 hat5 hlt5
       have HB5:=Lib.hid ((balloc HBD.out _).grown hgrow5 (by have:=HBD.out.size;simp;omega) (fun q hq=>(World.ownsRow.lt HOC.out q hq).1))
       have HO5:Hid (w5.ownsRow w2.heap.size 59 1 (.slice (some ⟨g,0,none⟩) (d++[x]).length cap1) (d++[x]).length (O++[.slice xa xn xc])):=Lib.hid (by simpa using hown5)
       have HX5:=Lib.hid (All2.snoc HXO.out HX.out)
       rw[HXN.out] at HX5
       clear hown5 hgrow5 hat5 hlt5 q0
       by_cases hcz:0<=c
       ·have e6:decide (0<=c)=true:=decide_eq_true hcz
        have hm2:=HMS.out
        rw[if_pos hcz] at hm2
        have HM2:=Lib.hid hm2
        have hjl:=HJC.out hcz
        clear hm2
        go_wp2_with fail
        go_roundw
        case rel=>exact⟨i+1,j+1,d++[x],some ⟨g,0,none⟩,cap1,O++[.slice xa xn xc],by go_num,by go_num,by simp,by omega,by omega,HM2,HO5,HX5,HB5⟩
        case measure=>simp [intOf];omega
       ·have e6:decide (0<=c)=false:=decide_eq_false hcz
        have hm2:=HMS.out
        rw[if_neg hcz] at hm2
        have HM2:=Lib.hid hm2
        clear hm2
        go_wp2_with fail
        go_roundw
        case rel=>exact⟨i+1,j,d++[x],some ⟨g,0,none⟩,cap1,O++[.slice xa xn xc],by go_num,rfl,by simp,by omega,by omega,HM2,HO5,HX5,HB5⟩
        case measure=>simp [intOf];omega
      ·obtain⟨yv,hyv,hyo⟩:=ALB.out.get hy
       obtain⟨gb,rfl,q1,hgb⟩:=own1_at (mc.ownsRow OB.out (by simp)) hyv
       obtain⟨ya,yc,rfl⟩:=own_sl hyo.1
       have hjl:j<bn:=by
        have:=(List.getElem?_eq_some_iff.1 hy).1
        rw[HBN.out] at this
        exact this
       have e1:decide ((j:Int)<0)=false:=by simp
       have e2:decide ((bn:Int)<=(j:Int))=false:=by simp;omega
       have e5:decide (c<=0)=false:=decide_eq_false (by omega)
       have e6:decide (0<=c)=true:=decide_eq_true (by omega)
       have HYO:=Lib.hid hyo
       have HMS:=Lib.hid hms
       obtain⟨yn,hyn⟩:∃ yn,y.length=yn:=⟨_,rfl⟩
       rw[hyn] at q1
       have HYN:=Lib.hid hyn
       clear hy hyv hyo hms mc hyn
       go_wp2_with (at_builtin;refine wpList_append_lies _ rfl (.tmp 70) (.tmp 75) 45 rfl w2.heap.size 59 i0 (.slice none 0 0) 1 24 Tryz.underlying45 hi0 hz0 hz1 hz2 rfl (by decide) (.slice oa d.length oc) d.length _ rfl (World.ownsRow.alloc HOC.out _) ⟨_,0,none⟩ 1 1 [.slice ya yn yc] rfl rfl (World.news_of_block (Blk.new _ _ _)) (by simp [Value.oneCell']) (by decide) ?c3 ?c5 ?c4 _ rfl ?_)
       case c3=>unfold maxLen;omega
       case c5=>omega
       case c4=>have:=HBD.out.size;simp;omega
       intro g cap1 w5 hown5 hgrow5 hat5 hlt5
       have HB5:=Lib.hid ((balloc HBD.out _).grown hgrow5 (by have:=HBD.out.size;simp;omega) (fun q hq=>(World.ownsRow.lt HOC.out q hq).1))
       have HO5:Hid (w5.ownsRow w2.heap.size 59 1 (.slice (some ⟨g,0,none⟩) (d++[y]).length cap1) (d++[y]).length (O++[.slice ya yn yc])):=Lib.hid (by simpa using hown5)
       have HX5:=Lib.hid (All2.snoc HYO.out HX.out)
       rw[HYN.out] at HX5
       clear hown5 hgrow5 hat5 hlt5 q1
       go_wp2_with fail
       go_roundw
       case rel=>exact⟨i,j+1,d++[y],some ⟨g,0,none⟩,cap1,O++[.slice ya yn yc],rfl,by go_num,by simp,by omega,by omega,HMS,HO5,HX5,HB5⟩
       case measure=>simp [intOf];omega
end Go.Proofs.YtgopfpjinohncaaGreatDoor
