/- The order of rows: -/
import Derived.Test.YtgopfpjinohncaaGreatDoorJyF
set_option maxHeartbeats 8000000
set_option maxRecDepth 100000
set_option linter.unusedVariables false
namespace Go.Proofs.YtgopfpjinohncaaGreatDoor
open Go.Proofs.Tryz
open Go.RowKit
def dt (a b:Vl):Int:=jH a.k a.n ⟨a.t.toArray⟩ b.k b.n ⟨b.t.toArray⟩
def aw:List Vl->List Vl->Int
 | [],[]=>0
 | [],_::_ => -1
 | _::_,[]=>1
 | a::l,b::m=>if dt a b=0 then aw l m else dt a b
theorem sx {l m:List Vl} {k:Nat} {a b:Vl} (ha:l[k]? = some a) (hb:m[k]? = some b):aw (l.drop k) (m.drop k)=if dt a b=0 then aw (l.drop (k+1)) (m.drop (k+1)) else dt a b:=by
 rw[List.drop_eq_getElem_cons (FE ha).1,(FE ha).2,List.drop_eq_getElem_cons (FE hb).1,(FE hb).2]
 rfl
theorem rI {l m:List Vl} {k:Nat} (ha:k<l.length) (hb:m.length<=k):aw (l.drop k) (m.drop k)=1:=by
 rw[List.drop_eq_getElem_cons ha,List.drop_eq_nil_of_le hb]
 rfl
theorem uF {l m:List Vl} (h:l.length<=m.length):aw (l.drop l.length) (m.drop l.length)=if l.length<m.length then -1 else 0:=by
 rw[List.drop_eq_nil_of_le FA]
 by_cases h1:l.length<m.length
 ·rw[if_pos h1,List.drop_eq_getElem_cons h1]
  rfl
 ·rw[if_neg h1,List.drop_eq_nil_of_le (by omega)]
  rfl
structure kL (w w':World):Prop where
 b:Below w.heap.size w w'
 d:w.drawn<=w'.drawn
theorem kL.refl (w:World):kL w w:=⟨Below.refl _ _,FA⟩
theorem kL.trans {a b c:World} (h:kL a b) (k:kL b c):kL a c:=⟨dZ h.b k.b,Nat.le_trans h.d k.d⟩
theorem kL.alloc {a w:World} (h:kL a w) (o:Obj):kL a (w.alloc o):=⟨ae h.b o,h.d⟩
theorem kL.drew {a w:World} (h:kL a w):kL a w.drew:=⟨ay h.b,Nat.le_succ_of_le h.d⟩
theorem kL.drewN {a w:World} (h:kL a w) (n:Nat):kL a (w.drewN n):=⟨dC h.b n,Nat.le_trans h.d (Nat.le_add_right _ _)⟩
theorem kL.form {w w':World} (h:kL w w'):∃ (q:Nat) (os:Array Obj),w'=Sort.grow (w.drewN q) os:=by
 refine⟨w'.drawn - w.drawn,w'.heap.extract w.heap.size w'.heap.size,?_⟩
 obtain⟨⟨h1,h2,h3,h4,h5⟩,h6⟩:=h
 obtain⟨hp,tp,dr,os,out⟩:=w'
 simp only at h1 h2 h3 h4 h5 h6
 subst h1 h2 h3
 unfold Sort.grow World.drewN
 simp only[World.mk.injEq,true_and,and_true]
 refine⟨?_,by omega⟩
 apply Array.ext_getElem?
 intro i
 by_cases hi:i<w.heap.size
 ·rw[Array.getElem?_append_left hi]
  exact h5 i hi
 ·rw[Array.getElem?_append_right (by omega),Array.getElem?_extract]
  by_cases h7:i<hp.size
  ·rw[if_pos (by omega)]
   congr 1
   omega
  ·rw[if_neg (by omega)]
   exact Array.getElem?_eq_none (by omega)
theorem qY (k1 n1:Int) (t1:ByteArray) (k2 n2:Int) (t2:ByteArray) (w:World) :
 Calls prog 176 #[.agg #[.int .i64 k1,.int .i64 n1,.string t1],.agg #[.int .i64 k2,.int .i64 n2,.string t2]] w fun e w' =>
  e=.returned (.int .i64 (jH k1 n1 t1 k2 n2 t2))/\kL w w':=by
 go_enter func176,ntmps176
 go_wp2_with fail
 go_region_held3 (fun w'=>w'.cell? ⟨w.heap.size,0,none⟩=some (.int .i64 k1)/\w'.cell? ⟨w.heap.size,1,none⟩=some (.int .i64 n1)/\w'.cell? ⟨w.heap.size,2,none⟩=some (.string t1) /\
  w'.cell? ⟨w.heap.size+1,0,none⟩=some (.int .i64 k2)/\w'.cell? ⟨w.heap.size+1,1,none⟩=some (.int .i64 n2)/\w'.cell? ⟨w.heap.size+1,2,none⟩=some (.string t2)) (go_keep)
  (first | (go_at_call 229;refine (sD _ _ _).mono ?_;rintro e w' ⟨rfl,rfl⟩)
         | (go_at_call 230;refine (uR _ _ _).mono ?_;rintro e w' ⟨rfl,rfl⟩)
         | (go_at_call 231;refine (Tryz.strings_Compare _ _ _).mono ?_;rintro e w' ⟨rfl,rfl⟩)
         | (go_at_call 228;refine (D4 (ew k1 k2) (ew n1 n2) (Lib.compareBytes t1.data.toList t2.data.toList) _ _ (by simp [go_sem]) (by simp [go_sem]) (by simp [go_sem])).mono ?_;rintro e w' ⟨rfl,rfl⟩))
 go_wp2
 go_ret
 exact⟨rfl,by repeat (first | exact kL.refl _ | refine kL.drewN ?_ _ | refine kL.drew ?_ | refine kL.alloc ?_ _)⟩
theorem ly (w:World) (va vb:Value) (a b:List Vl) (ha:aj w va 3 (a.map Vl.cells)) (hb:aj w vb 3 (b.map Vl.cells)) :
 Calls prog 175 #[va,vb,.func (.func 176) #[] #[]] w fun e w'=>e=.returned (.int .i64 (aw a b))/\kL w w':=by
 have eg:=enters_of func176 (by kernel_rfl) rfl
 obtain⟨aa,ac,rfl,hac,ham⟩:=ha.form
 obtain⟨ba,bc,rfl,hbc,hbm⟩:=hb.form
 have hla:=ha.len
 have hlb:=hb.len
 unfold maxLen at ham hbm
 simp only[List.length_map] at hac hbc hla hlb ha hb ⊢
 have HA:=Fx ha
 have HB:=Fx hb
 obtain⟨RES,hRES⟩:∃ RES,RES=aw (a.drop 0) (b.drop 0):=⟨_,rfl⟩
 rw[show aw a b=RES by rw[hRES];rfl]
 have HQ0:=Fx hRES
 clear ha hb hRES
 generalize hN:a.length=n at *
 generalize hM:b.length=m at *
 have HN:=Fx hN
 have HM:=Fx hM
 clear hN hM
 go_enter func175,ntmps175
 go_wp2_with fail
 go_loopw [13] (fun i wr=>∃ k:Nat,k<=n/\k<=m/\i=.int .i64 k/\Hid (RES=aw (a.drop k) (b.drop k))/\Hid (kL w wr)) (fun i _=>n - (intOf i).toNat)
 case atStart=>exact⟨0,Fz,Fz,rfl,HQ0,Fx (kL.refl _)⟩
 case round =>
  obtain⟨k,hk,hkm,rfl,HQ,BW⟩:=hrel
  obtain⟨wo,rfl⟩:∃ wo:World,wo=wr:=⟨_,rfl⟩
  clear HQ0
  by_cases hlt:k<n
  ·obtain⟨u,hu⟩:∃ u,a[k]? = some u:=⟨a[k]'(by rw[HN.out];exact hlt),FD (by rw[HN.out];exact hlt)⟩
   obtain⟨ab,ao,acap,hav,_,_,hal,hac'⟩:=(HA.out.keep BW.out.b).get (i:=k) (x:=u.cells) (by simp [hu])
   simp only[List.length_map,HN.out,Value.slice.injEq,true_and] at hav
   obtain⟨rfl,rfl⟩:=hav
   have p0:=hac' 0 _ rfl
   have p1:=hac' 1 _ rfl
   have p2:=hac' 2 _ rfl
   simp only[Nat.add_zero] at p0
   have hdk:decide ((k:Int)<0)=false:=by simp
   have hdn:decide ((n:Int)<=(k:Int))=false:=by simp;omega
   by_cases hltm:k<m
   ·obtain⟨v,hv⟩:∃ v,b[k]? = some v:=⟨b[k]'(by rw[HM.out];exact hltm),FD (by rw[HM.out];exact hltm)⟩
    have hst:=sx hu hv
    have HCV:=Fx (fun W=>qY u.k u.n ⟨u.t.toArray⟩ v.k v.n ⟨v.t.toArray⟩ W)
    obtain⟨bb,bo,bcap,hbv,_,_,hbl,hbc'⟩:=(HB.out.keep (BW.out.alloc (.cells #[.int .i64 u.k,.int .i64 u.n,.string ⟨u.t.toArray⟩] 111)).b).get (i:=k) (x:=v.cells) (by simp [hv])
    simp only[List.length_map,HM.out,Value.slice.injEq,true_and] at hbv
    obtain⟨rfl,rfl⟩:=hbv
    have r0:=hbc' 0 _ rfl
    have r1:=hbc' 1 _ rfl
    have r2:=hbc' 2 _ rfl
    simp only[Nat.add_zero] at r0
    have hdm:decide ((m:Int)<=(k:Int))=false:=by simp;omega
    have bk:kL wo ((wo.alloc (.cells #[.int .i64 u.k,.int .i64 u.n,.string ⟨u.t.toArray⟩] 111)).alloc (.cells #[.int .i64 v.k,.int .i64 v.n,.string ⟨v.t.toArray⟩] 111)):=((kL.refl _).alloc _).alloc _
    have x8:=(af.new wo 111 #[.int .i64 u.k,.int .i64 u.n,.string ⟨u.t.toArray⟩])
    obtain⟨W1,hW1⟩:∃ W1,wo.alloc (.cells #[.int .i64 u.k,.int .i64 u.n,.string ⟨u.t.toArray⟩] 111)=W1:=⟨_,rfl⟩
    rw[hW1] at bk x8 r0 r1 r2 hbl
    have x9:=af.new W1 111 #[.int .i64 v.k,.int .i64 v.n,.string ⟨v.t.toArray⟩]
    have x8':=x8.alloc (.cells #[.int .i64 v.k,.int .i64 v.n,.string ⟨v.t.toArray⟩] 111)
    obtain⟨W2,hW2⟩:∃ W2,W1.alloc (.cells #[.int .i64 v.k,.int .i64 v.n,.string ⟨v.t.toArray⟩] 111)=W2:=⟨_,rfl⟩
    rw[hW2] at bk x9 x8'
    have c0:=x8'.cell 0
    have c1:=x8'.cell 1
    have c2:=x8'.cell 2
    have cl:=x8'.lt
    have d0:=x9.cell 0
    have d1:=x9.cell 1
    have d2:=x9.cell 2
    have dl:=x9.lt
    simp only[FF] at c0 c1 c2 d0 d1 d2
    have HW1:=Fx hW1
    have HW2:=Fx hW2
    have HBK:=Fx bk
    have HST:=Fx hst
    clear hu hv hst bk x8 x9 x8' hW1 hW2 hac' hbc'
    go_upto_region 4 with fail
    rw[HW1.out]
    clear p0 p1 p2
    go_upto_region 7 with fail
    rw[HW2.out]
    clear r0 r1 r2
    go_wp2_with fail
    refine (HCV.out W2).mono ?_
    rintro e w5 ⟨rfl,hb5⟩
    have HB5:=Fx (BW.out.trans (HBK.out.trans hb5))
    clear hb5 c0 c1 c2 cl d0 d1 d2 dl
    obtain⟨cc,hcc⟩:∃ cc,dt u v=cc:=⟨_,rfl⟩
    rw[show jH u.k u.n ⟨u.t.toArray⟩ v.k v.n ⟨v.t.toArray⟩=cc from hcc]
    have hq:=HQ.out.trans HST.out
    rw[hcc] at hq
    by_cases h0:cc=0
    ·have q0:(cc != 0)=false:=by simp [h0]
     rw[if_pos h0] at hq
     have HQ2:=Fx hq
     clear h0 hq hcc
     go_wp2_with fail
     go_roundw
     case rel=>exact⟨k+1,by omega,by omega,by go_num,HQ2,HB5⟩
     case measure=>simp [intOf];omega
    ·have q0:(cc != 0)=true:=by simpa using h0
     rw[if_neg h0] at hq
     subst hq
     clear h0 hcc
     go_wp2_with fail
     go_ret
     exact⟨by first | rfl | simp,HB5.out⟩
   ·obtain rfl:k=m:=by omega
    have hq:=HQ.out
    rw[rI (by rw[HN.out];exact hlt) (by rw[HM.out];exact FA)] at hq
    subst hq
    have hdm:decide ((k:Int)<=(k:Int))=true:=by simp
    have HBX:=Fx (BW.out.alloc (.cells #[.int .i64 u.k,.int .i64 u.n,.string ⟨u.t.toArray⟩] 111))
    clear hu hac'
    go_wp2_with fail
    go_ret
    exact⟨by first | rfl | simp,HBX.out⟩
  ·obtain rfl:k=n:=by omega
   have hq:=HQ.out
   have he:=uF (l:=a) (m:=b) (by rw[HN.out,HM.out];exact hkm)
   rw[HN.out,HM.out] at he
   rw[he] at hq
   by_cases h1:k<m
   ·rw[if_pos h1] at hq
    subst hq
    have hd1:decide ((k:Int)<(m:Int))=true:=by simp;omega
    go_wp2_with fail
    go_ret
    exact⟨by first | rfl | simp,BW.out⟩
   ·rw[if_neg h1] at hq
    subst hq
    have hd1:decide ((k:Int)<(m:Int))=false:=by simp;omega
    go_wp2_with fail
    go_ret
    exact⟨by first | rfl | simp,BW.out⟩
theorem gZ (w:World) (va vb:Value) (a b:List Vl) (ha:aj w va 3 (a.map Vl.cells)) (hb:aj w vb 3 (b.map Vl.cells)) :
 Calls prog 93 #[va,vb] w fun e w'=>e=.returned (.int .i64 (aw a b))/\kL w w':=by
 have hc:=ly w va vb a b ha hb
 obtain⟨aa,ac,rfl,_,_⟩:=ha.form
 obtain⟨ba,bc,rfl,_,_⟩:=hb.form
 simp only[List.length_map] at hc ⊢
 have HC:=Fx hc
 clear ha hb hc
 generalize a.length=n at *
 generalize b.length=m at *
 go_enter func93,ntmps93
 go_wp2_with fail
 refine HC.out.mono ?_
 rintro e w1 ⟨rfl,hb1⟩
 have HB1:=Fx hb1
 clear hb1
 go_wp2_with fail
 go_ret
 exact⟨by first | rfl | simp,HB1.out⟩
theorem nP (w:World) (va vb:Value) (a b:List Vl) (ha:aj w va 3 (a.map Vl.cells)) (hb:aj w vb 3 (b.map Vl.cells)) :
 Calls prog 93 #[va,vb] w fun e w'=>e=.returned (.int .i64 (aw a b))/\Below w.heap.size w w' :=
 (gZ w va vb a b ha hb).mono fun _ _ h=>⟨h.1,h.2.b⟩
theorem eX (a b:Int):ew a b = -1/\a<b∨ew a b=0/\a=b∨ew a b=1/\b<a:=by
 unfold ew;by_cases h:a<b
 ·simp [h]
 ·by_cases h2:b<a
  ·simp [h,h2]
  ·simp [h,h2];omega
theorem C1:∀ (a b:List UInt8),Lib.compareBytes a b = -1∨Lib.compareBytes a b=0∨Lib.compareBytes a b=1
 | [],[]=>by simp [Lib.compareBytes]
 | [],_::_=>by simp [Lib.compareBytes]
 | _::_,[]=>by simp [Lib.compareBytes]
 | x::a,y::b=>by
   unfold Lib.compareBytes
   split
   ·simp
   ·split
    ·simp
    ·exact C1 a b
theorem wL:∀ (a:List UInt8),Lib.compareBytes a a=0
 | []=>rfl
 | x::a=>by unfold Lib.compareBytes;simp [UInt8.lt_irrefl,wL a]
theorem DE:∀ (a b:List UInt8),Lib.compareBytes a b=0->a=b
 | [],[],_=>rfl
 | [],_::_,h=>by simp [Lib.compareBytes] at h
 | _::_,[],h=>by simp [Lib.compareBytes] at h
 | x::a,y::b,h=>by
   unfold Lib.compareBytes at h
   by_cases h1:x<y
   ·simp [h1] at h
   ·by_cases h2:y<x
    ·simp [h1,h2] at h
    ·simp [h1,h2] at h
     have e:x=y:=by
      have:=UInt8.le_antisymm (UInt8.not_lt.1 h2) (UInt8.not_lt.1 h1)
      exact this
     rw[e,DE a b h]
theorem wA:∀ (a b:List UInt8),Lib.compareBytes b a = -Lib.compareBytes a b
 | [],[]=>rfl
 | [],_::_=>rfl
 | _::_,[]=>rfl
 | x::a,y::b=>by
   unfold Lib.compareBytes
   by_cases h1:x<y
   ·have h2:¬ y<x:=fun h=>UInt8.lt_irrefl x (UInt8.lt_trans h1 h)
    simp [h1,h2]
   ·by_cases h2:y<x
    ·simp [h1,h2]
    ·simp [h1,h2];exact wA a b
theorem sH:∀ (a b c:List UInt8),Lib.compareBytes a b<=0->Lib.compareBytes b c<=0->Lib.compareBytes a c<=0
 | [],_,[],_,_=>by simp [Lib.compareBytes]
 | [],_,_::_,_,_=>by simp [Lib.compareBytes]
 | _::_,[],_,h,_=>by simp [Lib.compareBytes] at h
 | _::_,_::_,[],_,h=>by simp [Lib.compareBytes] at h
 | x::a,y::b,z::c,h,k=>by
   unfold Lib.compareBytes at h k ⊢
   by_cases h1:x<y
   ·by_cases k1:y<z
    ·simp [UInt8.lt_trans h1 k1]
    ·by_cases k2:z<y
     ·simp [k1,k2] at k
     ·have e:y=z:=UInt8.le_antisymm (UInt8.not_lt.1 k2) (UInt8.not_lt.1 k1)
      simp [e ▸ h1]
   ·by_cases h2:y<x
    ·simp [h1,h2] at h
    ·have e:x=y:=UInt8.le_antisymm (UInt8.not_lt.1 h2) (UInt8.not_lt.1 h1)
     subst e
     by_cases k1:x<z
     ·simp [k1]
     ·by_cases k2:z<x
      ·simp [k1,k2] at k
      ·simp [h1] at h
       simp [k1,k2] at k
       simp [k1,k2]
       exact sH a b c h k
theorem pU (a b:Int):ew b a = - ew a b:=by
 rcases eX a b with ⟨e,h⟩ | ⟨e,h⟩ | ⟨e,h⟩<;>rcases eX b a with ⟨e',h'⟩ | ⟨e',h'⟩ | ⟨e',h'⟩<;>rw[e,e']<;>omega
theorem Cl (x y z:Int):Cj (-x) (-y) (-z) = -Cj x y z:=by
 unfold Cj;by_cases h:x=0<;>by_cases h':y=0<;>simp [h,h']
theorem zd (k1 n1:Int) (t1:ByteArray) (k2 n2:Int) (t2:ByteArray):jH k2 n2 t2 k1 n1 t1 = -jH k1 n1 t1 k2 n2 t2:=by
 unfold jH
 rw[pU k1 k2,pU n1 n2,wA t1.data.toList t2.data.toList,Cl]
theorem ze {a b:ByteArray} (h:a.data.toList=b.data.toList):a=b:=by
 cases a;cases b;congr;exact Array.toList_inj.1 h
theorem CH {k1 n1:Int} {t1:ByteArray} {k2 n2:Int} {t2:ByteArray} (h:jH k1 n1 t1 k2 n2 t2=0):k1=k2/\n1=n2/\t1=t2:=by
 unfold jH Cj at h
 rcases eX k1 k2 with ⟨e,h1⟩ | ⟨e,h1⟩ | ⟨e,h1⟩<;>simp only[e] at h
 ·simp at h
 ·rcases eX n1 n2 with ⟨e',h2⟩ | ⟨e',h2⟩ | ⟨e',h2⟩<;>simp only[e'] at h
  ·simp at h
  ·exact⟨h1,h2,ze (DE _ _ (by simpa using h))⟩
  ·simp at h
 ·simp at h
theorem xw (a:Int):ew a a=0:=by simp [ew]
theorem zp (k n:Int) (t:ByteArray):jH k n t k n t=0:=by simp [jH,xw,wL,Cj]
theorem Ds {k1 n1:Int} {t1:ByteArray} {k2 n2:Int} {t2:ByteArray}:jH k1 n1 t1 k2 n2 t2<=0 ↔ (k1<k2∨k1=k2/\(n1<n2∨n1=n2/\Lib.compareBytes t1.data.toList t2.data.toList<=0)):=by
 unfold jH Cj
 rcases eX k1 k2 with ⟨e,h⟩ | ⟨e,h⟩ | ⟨e,h⟩<;>simp only[e]
 ·simp;left;exact h
 ·rcases eX n1 n2 with ⟨e',h'⟩ | ⟨e',h'⟩ | ⟨e',h'⟩<;>simp only[e']
  ·simp;omega
  ·simp [h,h']
  ·simp;omega
 ·simp;omega
theorem vm {k1 n1:Int} {t1:ByteArray} {k2 n2:Int} {t2:ByteArray} {k3 n3:Int} {t3:ByteArray} (h:jH k1 n1 t1 k2 n2 t2<=0) (k:jH k2 n2 t2 k3 n3 t3<=0):jH k1 n1 t1 k3 n3 t3<=0:=by
 rw[Ds] at h k ⊢
 rcases h with h | ⟨h,h'⟩<;>rcases k with k | ⟨k,k'⟩
 ·omega
 ·omega
 ·omega
 ·right
  refine⟨by omega,?_⟩
  rcases h' with h' | ⟨h1,h2⟩<;>rcases k' with k' | ⟨k1',k2'⟩
  ·omega
  ·omega
  ·omega
  ·right;exact⟨by omega,sH _ _ _ h2 k2'⟩
theorem pY (a b:Vl):dt b a = -dt a b:=zd _ _ _ _ _ _
theorem xm (a:Vl):dt a a=0:=zp _ _ _
theorem mA {a b:Vl} (h:dt a b=0):a=b:=by
 obtain⟨h1,h2,h3⟩:=CH h
 have h4:a.t=b.t:=gi.1 h3
 cases a
 cases b
 simp_all
theorem vq {a b c:Vl} (h:dt a b<0) (k:dt b c<0):dt a c<0:=by
 have h1:dt a c<=0:=vm (Int.le_of_lt h) (Int.le_of_lt k)
 by_cases h2:dt a c=0
 ·obtain rfl:=mA h2
  have:=pY a b
  omega
 ·omega
theorem eB:∀ (a b:List Vl),aw b a = -aw a b
 | [],[]=>rfl
 | [],_::_=>rfl
 | _::_,[]=>rfl
 | a::l,b::m=>by
   show (if dt b a=0 then aw m l else dt b a) = -(if dt a b=0 then aw l m else dt a b)
   rw[pY a b,eB l m]
   by_cases h:dt a b=0<;>simp [h]
theorem fP:∀ (a:List Vl),aw a a=0
 | []=>rfl
 | a::l=>by
   show (if dt a a=0 then aw l l else dt a a)=0
   rw[if_pos (xm a),fP l]
theorem iP:∀ (a b:List Vl),aw a b=0->a=b
 | [],[],_=>rfl
 | [],_::_,h=>by simp [aw] at h
 | _::_,[],h=>by simp [aw] at h
 | a::l,b::m,h=>by
   rw[show aw (a::l) (b::m)=if dt a b=0 then aw l m else dt a b from rfl] at h
   by_cases h0:dt a b=0
   ·rw[if_pos h0] at h
    rw[mA h0,iP l m h]
   ·rw[if_neg h0] at h
    exact absurd h h0
theorem dS:∀ (a b c:List Vl),aw a b<0->aw b c<0->aw a c<0
 | [],[],_,h,_=>by simp [aw] at h
 | [],_::_,[],_,h=>by simp [aw] at h
 | [],_::_,_::_,_,_=>by simp [aw]
 | _::_,[],_,h,_=>by simp [aw] at h
 | _::_,_::_,[],_,h=>by simp [aw] at h
 | a::l,b::m,c::n,h,k=>by
   rw[show aw (a::l) (b::m)=if dt a b=0 then aw l m else dt a b from rfl] at h
   rw[show aw (b::m) (c::n)=if dt b c=0 then aw m n else dt b c from rfl] at k
   show (if dt a c=0 then aw l n else dt a c)<0
   by_cases h0:dt a b=0
   ·rw[if_pos h0] at h
    obtain rfl:=mA h0
    by_cases h1:dt a c=0
    ·rw[if_pos h1] at k ⊢
     exact dS l m n h k
    ·rw[if_neg h1] at k ⊢
     exact k
   ·rw[if_neg h0] at h
    by_cases h1:dt b c=0
    ·obtain rfl:=mA h1
     rw[if_neg h0]
     exact h
    ·rw[if_neg h1] at k
     have h2:=vq h k
     rw[if_neg (by omega)]
     exact h2
theorem wm (s:ByteArray) (w:World) (ts:List ak) (hop:∀ W,Below w.heap.size w W->Calls prog 54 #[.string s] W fun e w'=>∃ r vt,e=.returned (.pointer (some ⟨r,0,none⟩))/\W.heap.size<=r/\Rs w' r ts vt/\Below W.heap.size W w') :
 Calls prog 61 #[.string s] w (kF w (fm ts)):=by
 obtain⟨i0,hi0,hz0,hz1,hz2⟩:=info_parts Tryz.infoStr
 obtain⟨it,hit,ht0,ht1,ht2⟩:=info_parts Tryz.infoTrm
 obtain⟨ia0,hia,ha0,ha1,ha2⟩:=info_parts Tryz.infoAtm
 have hf4:∀ (a b c d e:Value) (w:World),(Instr.field 234 (.agg #[a,b,c,d,e]) 0).run prog w=.ok (.agg #[a,b,c,d]) w:=fun _ _ _ _ _ _=>by kernel_rfl
 have hmf:∀ (fn:Fn) (first cap:Array Value) (w:World),(Instr.makeFunc fn first cap).run prog w=.ok (.func fn first cap) w:=fun _ _ _ _=>rfl
 have hfd:∀ (a b:Value) (w:World),(Instr.field 221 (.agg #[a,b]) 0).run prog w=.ok a w:=fun _ _ _=>by kernel_rfl
 have hps:=PQ.start w
 have ho:=hop _ hps.b
 have HPS:=Fx hps
 have HO:=Fx ho
 have hQ:∃ Q,Q=fm ts:=⟨_,rfl⟩
 obtain⟨Q,hQ⟩:=hQ
 rw[<-hQ]
 have HQ:=Fx hQ
 clear hps ho hop hQ
 go_enter_defers func61,ntmps61
 go_wp2_with fail
 refine HO.out.mono ?_
 rintro e w1 ⟨r,vt,rfl,hr,hrs,hb⟩
 have hp:=HPS.out.keep hb
 have hrB:w.heap.size+3<=r:=by simp at hr;omega
 have hp1:PQ w w.heap.size #[.string ⟨#[]⟩,.slice none 0 0,.slice none 0 0] (w1.alloc (.cells #[.pointer (some ⟨r,0,none⟩)] 118)):=hp.keep (ae Fy _)
 have hi:dD (w1.alloc (.cells #[.pointer (some ⟨r,0,none⟩)] 118)) w1.heap.size r:=af.new _ _ _
 have hr1:=hrs.keep (ae (Below.refl _ w1) (.cells #[.pointer (some ⟨r,0,none⟩)] 118))
 have hnb:w.heap.size+3<=w1.heap.size:=hp.s
 have hnm:=iI (B:=w.heap.size+3) hr1 hrB
 have HP:=Fx hp1
 have HI:=Fx hi
 have HR:=Fx hr1
 have hlen:=hr1.len
 clear hb hp hrs hp1 hi hr1 hr HPS HO
 cases h0:aY ts with
 | bad a f =>
   have hq:=HQ.out
   unfold fm at hq
   rw[h0] at hq
   simp only at hq
   subst hq
   rw[h0] at hnm
   have HNM:=Fx hnm
   clear h0 hnm
   go_wp2_with fail
   refine HNM.out.mono ?_
   rintro e w2 ⟨rfl,hm⟩
   have HP2:=Fx (HP.out.mt hm)
   clear hm
   go_wp2_with fail
   exact cC HP2.out rfl rfl rfl
 | ok x c1 =>
   have hq:=HQ.out
   unfold fm at hq
   rw[h0] at hq
   simp only at hq
   have HQ1:=Fx hq
   rw[h0] at hnm
   have HNM:=Fx hnm
   have hl1:=dH _ _ _ h0
   clear h0 hnm hq HQ
   go_wp2_with fail
   refine HNM.out.mono ?_
   rintro e w2 ⟨v2,rfl,⟨rfl,hr2⟩,hm2⟩
   have hp2:=HP.out.mt hm2
   have hi2:=HI.out.mt hm2 (by decide)
   have k0:=hp2.q.cell 0
   have y0:=hp2.q.frozen 0
   simp at k0
   have hnlt:=hp2.q.lt
   have hp3:=hp2.store 0 (.string ⟨x.1.toArray⟩)
   simp only[Array.setIfInBounds] at hp3
   have m3:MT 0 [50] w2 (w2.setCell ⟨w.heap.size,0,none⟩ (.string ⟨x.1.toArray⟩)):=MT.setCell (MT.refl w2) hp2.q (by simp) (Fz) _
   have hi3:=hi2.mt m3 (by decide)
   have hr3:=hr2.mt m3 (by decide) (by decide)
   have x0:=af.cell hi3 0
   simp at x0
   have hnms:=yY (B:=w.heap.size+3) hi3 hr3 hrB hp3.s
   have HP3:=Fx hp3
   have HI3:=Fx hi3
   have HR3:=Fx hr3
   clear hp2 hi2 hr2 hm2 hp3 m3 hi3 hr3 HP HI HR HNM
   unfold dw
   cases h1:aJ aY c1 with
   | bad a f =>
     have hq:=HQ1.out
     rw[h1] at hq hnms
     simp only at hq
     subst hq
     have HC:=Fx hnms
     clear h1 hnms
     go_wp2_with fail
     refine HC.out.mono ?_
     rintro e wx ⟨rfl,hm⟩
     have HPX:=Fx (HP3.out.mt hm)
     clear hm
     go_wp2_with fail
     exact cC HPX.out rfl rfl rfl
   | ok hs c2 =>
     have hq:=HQ1.out
     rw[h1] at hq hnms
     simp only at hq
     have HQ2:=Fx hq
     have HC:=Fx hnms
     have hl2:=lr dH _ _ _ h1
     have hhl:=ox dH h1
     clear h1 hnms hq HQ1
     go_wp2_with fail
     refine HC.out.mono ?_
     rintro e w4 ⟨v4,rfl,⟨hown,hi4,hr4⟩,hm4⟩
     obtain⟨ha,hc,rfl⟩:=aB hown
     have hp4:=HP3.out.mt hm4
     have HW:=Fx (World.ownsRow.low hown HP3.out.s)
     have x0:=af.cell hi4 0
     simp at x0
     have hmk:=bf (B:=w.heap.size+3) (Ts:=[213]) hr4 [58,45] hrB (by simp)
     have HP4:=Fx hp4
     have HI4:=Fx hi4
     clear hown hi4 hr4 hm4 hp4 HP3 HI3 HR3 HC
     cases h2:tk 3 [[58,45]] c2 with
     | bad a f =>
       have hq:=HQ2.out
       rw[h2] at hq hmk
       simp only at hq
       subst hq
       have HC:=Fx hmk
       clear h2 hmk
       go_wp2_with fail
       refine HC.out.mono ?_
       rintro e wx ⟨rfl,hm⟩
       have HPX:=Fx (HP4.out.mt hm)
       clear hm
       go_wp2_with fail
       exact cC HPX.out rfl rfl rfl
     | ok t3 c3 =>
       have hq:=HQ2.out
       rw[h2] at hq hmk
       simp only at hq
       have HQ3:=Fx hq
       have HC:=Fx hmk
       have hl3:=cA _ _ _ _ _ h2
       clear h2 hmk hq HQ2
       go_wp2_with fail
       refine HC.out.mono ?_
       rintro e w5 ⟨v5,rfl,⟨rfl,hr5⟩,hm5⟩
       have hp5:=HP4.out.mt hm5
       have hi5:=HI4.out.mt hm5 (by decide)
       have HW5:=Fx (hm5.ownsRow HW.out (by decide))
       have x0:=af.cell hi5 0
       simp at x0
       have hat:=xx (B:=w.heap.size+3) hi5 hr5 hrB hp5.s
       have HP5:=Fx hp5
       clear hi5 hr5 hm5 hp5 HP4 HI4 HW HC
       unfold ak.v
       cases h3:aQ bS c3 with
       | bad a f =>
         have hq:=HQ3.out
         rw[h3] at hq hat
         simp only at hq
         subst hq
         have HC:=Fx hat
         clear h3 hat
         go_wp2_with fail
         refine HC.out.mono ?_
         rintro e wx ⟨rfl,hm⟩
         have HPX:=Fx (HP5.out.mt hm)
         clear hm
         go_wp2_with fail
         exact cC HPX.out rfl rfl rfl
       | ok l c4 =>
         have hq:=HQ3.out
         rw[h3] at hq hat
         simp only at hq
         have HQ4:=Fx hq
         have HC:=Fx hat
         have hl4:=pF eS _ _ _ h3
         have hal:=rO eS h3
         have htl:=zN (N:=100000) (Q:=fun x:eZ=>x.2.length<=100001) eS (fun c x c' hc hx=>by have:=zP hx;omega) (by omega) h3
         clear h3 hat hq HQ3
         go_wp2_with fail
         refine HC.out.mono ?_
         rintro e w6 ⟨v6,rfl,⟨hao,hi6,hr6⟩,hm6⟩
         obtain⟨la,lc,rfl⟩:=hao.sl
         have hp6:=HP5.out.mt hm6
         have HW6:=Fx (hm6.ownsRow HW5.out (by decide))
         have hao2:fb (w.heap.size+3) w6 (.slice la l.length lc) l:=by
          obtain⟨css,h1,h2⟩:=hao
          exact⟨css,World.ownsRow.low h1 HP5.out.s,h2⟩
         have x0:=af.cell hi6 0
         simp at x0
         have htk:=cN (B:=w.heap.size+3) (Ts:=[213]) hr6 0 [] _ (eE _) hrB (by simp)
         have HP6:=Fx hp6
         have HA6:=Fx hao2
         clear hao hao2 hi6 hr6 hm6 hp6 HP5 HW5 HC
         cases h4:tk 0 [] c4 with
         | bad a f =>
           have hq:=HQ4.out
           rw[h4] at hq htk
           simp only at hq
           subst hq
           have HC:=Fx htk
           clear h4 htk
           go_wp2_with fail
           refine HC.out.mono ?_
           rintro e wx ⟨rfl,hm⟩
           have HPX:=Fx (HP6.out.mt hm)
           clear hm
           go_wp2_with fail
           exact cC HPX.out rfl rfl rfl
         | ok t5 c5 =>
           have hq:=HQ4.out
           rw[h4] at hq htk
           simp only at hq
           have HQ5:=Fx hq
           have HC:=Fx htk
           clear h4 htk hq HQ4
           go_wp2_with fail
           refine HC.out.mono ?_
           rintro e w7 ⟨v7,rfl,⟨rfl,hr7⟩,hm7⟩
           have hp7:=HP6.out.mt hm7
           have HW7:=Fx (hm7.ownsRow HW6.out (by decide))
           have ha7:=HA6.out.mt hm7 (by decide) (by decide)
           have hlm:=wl w7 _ l (ha7.row (by omega) (fun x hx=>by have:=htl x hx;omega))
           have HP7:=Fx hp7
           have HA7:=Fx ha7
           clear hr7 hm7 hp7 ha7 HP6 HW6 HA6 HC
           unfold ak.v
           cases h5:nF l with
           | some q =>
             have hq:=HQ5.out
             unfold tH at hq
             rw[h5] at hq hlm
             simp only at hq
             subst hq
             have HC:=Fx hlm
             clear h5 hlm
             go_wp2_with fail
             refine HC.out.mono ?_
             rintro e wx ⟨rfl,hm⟩
             have HPX:=Fx (HP7.out.keep hm)
             clear hm
             go_wp2_with fail
             exact cC HPX.out rfl rfl rfl
           | none =>
             have hq:=HQ5.out
             unfold tH at hq
             rw[h5] at hq hlm
             simp only at hq
             have HQ6:=Fx hq
             have HL5:=Fx h5
             have HC:=Fx hlm
             clear h5 hlm hq HQ5
             go_wp2_with fail
             refine HC.out.mono ?_
             rintro e w8 ⟨rfl,hm8⟩
             have HP8:=Fx (HP7.out.keep hm8)
             have HW8:=Fx ((MT.ofBelow (B:=0) (Ts:=[]) hm8).ownsRow HW7.out (by simp))
             have HA8:=Fx (HA7.out.mt (MT.ofBelow (B:=0) (Ts:=[]) hm8) (by simp) (by simp))
             clear hm8 HP7 HW7 HA7 HC
             generalize hN:hs.length=N at *
             have HN:=Fx hN
             clear hN
             go_wp2_with fail
             go_loopw [38] (fun i wr=>∃ (k:Nat) (o:List (List UInt8)) (oa:Option Addr) (oc:Nat),k<=N/\i=.int .i64 k/\Hid (PQ w w.heap.size #[.string ⟨x.1.toArray⟩,.slice oa o.length oc,.slice none 0 0] wr)/\Hid (wr.ownsRow (w.heap.size+3) 9 1 (.slice oa o.length oc) o.length (o.map fun s=>.string ⟨s.toArray⟩))/\Hid (wr.ownsRow (w.heap.size+3) 221 2 (.slice ha N hc) N (hs.flatMap dw))/\Hid (fb (w.heap.size+3) wr (.slice la l.length lc) l)/\Hid (o=(hs.take k).map (·.1))/\o.length<=k) (fun i _=>N - (intOf i).toNat)
             case atStart=>exact⟨0,[],none,0,Fz,rfl,HP8,Fx (World.ownsRow_nil _ _ _ _),HW8,HA8,Fx rfl,FA⟩
             case round =>
              obtain⟨k,o,oa,oc,hk,rfl,HPr,OW,HWr,HAr,HE,hol⟩:=hrel
              by_cases hlt:k<N
              ·obtain⟨h,hh⟩:∃ h,hs[k]? = some h:=⟨hs[k]'(by rw[HN.out];exact hlt),FD (by rw[HN.out];exact hlt)⟩
               have hrow:=uj (hs:=hs) (by rw[HN.out];exact HWr.out) (by rw[HN.out];omega)
               obtain⟨b,off,cap',hv,_,_,hbl,hce⟩:=hrow.get (i:=k) (x:=dw h) (by simp [hh])
               simp only[List.length_map,HN.out,Value.slice.injEq,true_and] at hv
               obtain⟨rfl,rfl⟩:=hv
               have q0:=hce 0 _ rfl
               have q1:=hce 1 _ rfl
               simp only[Nat.add_zero] at q0
               have p1:=HPr.out.q.cell 1
               simp only[FF] at p1
               have hnl:=HPr.out.q.lt
               have hns:=HPr.out.s
               have HE2:=Fx (show (hs.take (k+1)).map (·.1)=o++[h.1] by rw[List.take_add_one,hh,HE.out];simp)
               clear hce hrow hh
               go_wp2_with (at_builtin;refine wpList_append_lies _ rfl (.tmp 43) (.tmp 46) 28 rfl (w.heap.size+3) 9 i0 (.string ⟨#[]⟩) 1 16 underlying28 hi0 hz0 hz1 hz2 rfl (by decide) (.slice oa o.length oc) o.length _ rfl ((OW.out.alloc _).alloc _) ⟨_,0,none⟩ 1 1 [.string ⟨h.1.toArray⟩] rfl rfl (World.news_of_block (cM _ _ _ _)) (by simp [Value.oneCell']) (by decide) ?c3 ?c5 ?c4 _ rfl ?_)
               case c3=>unfold maxLen;omega
               case c5=>omega
               case c4=>simp;omega
               intro g cap1 w9 hown2 hgrow2 hat2 hlt2
               have hb9:Below (w.heap.size+3) wr w9:=(((Below.refl _ wr).alloc hns _).alloc (by simp;omega) _).grown hgrow2 (by simp;omega) (fun q hq=>(OW.out.lt q hq).1)
               have m9:MT 0 [9,50] wr w9:=(((MT.refl wr).alloc _).alloc _).grown hgrow2 ((OW.out.alloc _).alloc _) (by simp) (Fz)
               have hp9:=HPr.out.below hb9
               have p9:=hp9.q.cell 1
               simp only[FF] at p9
               have y9:=hp9.q.frozen 1
               have hnl9:=hp9.q.lt
               have ms:MT 0 [50] w9 (w9.setCell ⟨w.heap.size,1,none⟩ (.slice (some ⟨g,0,none⟩) (o.length+1) cap1)):=MT.setCell (MT.refl w9) hp9.q (by simp) (Fz) _
               have hps:=hp9.store 1 (.slice (some ⟨g,0,none⟩) (o.length+1) cap1)
               simp only[Array.setIfInBounds] at hps
               have mall:=m9.trans (ms.wide (by simp))
               have HPS9:=Fx hps
               have HO9:=Fx (ms.ownsRow hown2 (by decide))
               have HW9:=Fx (mall.ownsRow HWr.out (by decide))
               have HA9:=Fx (HAr.out.mt mall (by decide) (by decide))
               clear hown2 hgrow2 hat2 hlt2 hb9 m9 hp9 ms hps mall
               go_wp2_with fail
               go_roundw
               case rel=>exact⟨k+1,o++[h.1],some ⟨g,0,none⟩,cap1,by omega,by go_num,Fx (by simpa using HPS9.out),Fx (by simpa using HO9.out),HW9,HA9,Fx HE2.out.symm,by simp;omega⟩
               case measure=>simp [intOf];omega
              ·obtain rfl:k=N:=by omega
               have he:=HE.out
               rw[List.take_of_length_le (by rw[HN.out];exact FA)] at he
               have HE3:=Fx he
               clear he HE
               generalize hM:l.length=M at *
               have HM:=Fx hM
               clear hM
               obtain⟨w10,rfl⟩:∃ w10:World,w10=wr:=⟨_,rfl⟩
               go_wp2_with fail
               go_loopw [52] (fun i wr=>∃ (i2:Nat) (aa:Option Addr) (ac:Nat) (rows:List (List Value)),i2<=M/\i=.int .i64 i2/\Hid (PQ w w.heap.size #[.string ⟨x.1.toArray⟩,.slice oa o.length oc,.slice aa i2 ac] wr)/\Hid (wr.ownsRow (w.heap.size+3) 9 1 (.slice oa o.length oc) o.length (o.map fun s=>.string ⟨s.toArray⟩))/\Hid (wr.ownsRow (w.heap.size+3) 221 2 (.slice ha k hc) k (hs.flatMap dw))/\Hid (fb (w.heap.size+3) wr (.slice la M lc) l)/\Hid (wr.ownsRow (w.heap.size+3) 105 2 (.slice aa i2 ac) i2 rows.flatten)/\Hid (aH (mg (w.heap.size+3) wr) rows ((l.take i2).map cH))) (fun i _=>M - (intOf i).toNat)
               case atStart=>exact⟨0,none,0,[],Fz,rfl,HPr,OW,HWr,HAr,Fx (World.ownsRow_nil _ _ _ _),Fx trivial⟩
               case round =>
                obtain⟨i2,aa,ac,rows,hk,rfl,HPr,OW,HWr,HAr,RW,RA⟩:=hrel
                obtain⟨wo,rfl⟩:∃ wo:World,wo=wr:=⟨_,rfl⟩
                by_cases hlt:i2<M
                ·obtain⟨y,hy⟩:∃ y,l[i2]? = some y:=⟨l[i2]'(by rw[HM.out];exact hlt),FD (by rw[HM.out];exact hlt)⟩
                 have hat:=HAr.out.row (by rw[HM.out];omega) (fun z hz=>by have:=htl z hz;omega)
                 obtain⟨b,off,cap',ta,tc,hv,_,_,hbl,q0,q1,q2,htr⟩:=hat.get hy
                 rw[HM.out] at hv
                 simp only[Value.slice.injEq,true_and] at hv
                 obtain⟨rfl,rfl⟩:=hv
                 have hym:=htl y (FC hy)
                 have HTR:=Fx htr
                 have HRA2:=Fx (show (l.take (i2+1)).map cH=(l.take i2).map cH++[cH y] by rw[List.take_add_one,hy];simp)
                 have hns:=HPr.out.s
                 generalize hm:y.2.length=m at *
                 have HMM:=Fx hm
                 have hxb:af ((wo.alloc (.cells #[.string ⟨y.1.1.toArray⟩,.int .i64 y.1.2,.slice ta m tc] 231)).alloc (.cells #[.string ⟨y.1.1.toArray⟩,.slice none 0 0] 105)) (wo.heap.size+1) 105 #[.string ⟨y.1.1.toArray⟩,.slice none 0 0]:=cM _ _ _ _
                 have HXB:=Fx hxb
                 clear hat htr hy hm hxb
                 go_wp2_with fail
                 go_loopw [63] (fun i wr=>∃ (j:Nat) (ja:Option Addr) (jc:Nat),j<=m/\i=.int .i64 j/\Hid (Below wo.heap.size wo wr)/\Hid (af wr (wo.heap.size+1) 105 #[.string ⟨y.1.1.toArray⟩,.slice ja j jc])/\Hid (wr.ownsRow wo.heap.size 113 4 (.slice ja j jc) j ((y.2.take j).flatMap fun t=>t.1.cells))) (fun i _=>m - (intOf i).toNat)
                 case atStart=>exact⟨0,none,0,Fz,rfl,Fx (ae (ae Fy _) _),HXB,Fx (World.ownsRow_nil _ _ _ _)⟩
                 case round =>
                  obtain⟨j,ja,jc,hj,rfl,JB,JX,JO⟩:=hrel
                  by_cases hjl:j<m
                  ·obtain⟨t,ht⟩:∃ t,y.2[j]? = some t:=⟨y.2[j]'(by rw[HMM.out];exact hjl),FD (by rw[HMM.out];exact hjl)⟩
                   obtain⟨tb,tfo,tcap,htv,_,_,htbl,htc⟩:=(HTR.out.keep JB.out).get (i:=j) (x:=gV t) (by simp [ht])
                   simp only[List.length_map,HMM.out,Value.slice.injEq,true_and] at htv
                   obtain⟨rfl,rfl⟩:=htv
                   have t0:=htc 0 _ rfl
                   have t1:=htc 1 _ rfl
                   have t2:=htc 2 _ rfl
                   have t3:=htc 3 _ rfl
                   have t4:=htc 4 _ rfl
                   simp only[Nat.add_zero] at t0
                   have x1:=JX.out.cell 1
                   simp only[FF] at x1
                   have hxl:=JX.out.lt
                   have hjz:=JB.out.size
                   have HJT:=Fx (show (y.2.take (j+1)).flatMap (fun t=>t.1.cells)=(y.2.take j).flatMap (fun t=>t.1.cells)++t.1.cells by rw[List.take_add_one,ht];simp)
                   clear htc ht
                   go_wp2_with (at_builtin;refine wpList_append_lies _ rfl (.tmp 68) (.tmp 71) 103 rfl wo.heap.size 113 it (.agg #[.string ⟨#[]⟩,.int .i64 0,.int .i64 0,.string ⟨#[]⟩]) 4 48 underlying103 hit ht0 ht1 ht2 rfl (by decide) (.slice ja j jc) j _ rfl ((JO.out.alloc _).alloc _) ⟨_,0,none⟩ 1 1 [.string ⟨t.1.x.toArray⟩,.int .i64 t.1.k,.int .i64 t.1.n,.string ⟨t.1.t.toArray⟩] rfl rfl (World.news_of_block (cM _ _ _ _)) (by simp [Value.oneCell']) (by decide) ?c3 ?c5 ?c4 _ rfl ?_)
                   case c3=>unfold maxLen;omega
                   case c5=>omega
                   case c4=>simp;omega
                   intro g cap1 w11 hown2 hgrow2 hat2 hlt2
                   have hb11:Below wo.heap.size wo w11:=(ae (ae JB.out _) _).grown hgrow2 (by simp;omega) (fun q hq=>(JO.out.lt q hq).1)
                   have hne:=aE JO.out JX.out (by decide)
                   have hx11:=((JX.out.alloc (.cells #[.string ⟨t.1.x.toArray⟩,.int .i64 t.1.k,.int .i64 t.1.n,.string ⟨t.1.t.toArray⟩,.int .i64 t.2] 234)).alloc (.cells #[.string ⟨t.1.x.toArray⟩,.int .i64 t.1.k,.int .i64 t.1.n,.string ⟨t.1.t.toArray⟩] 113)).grown hgrow2 (fun e=>hne e.symm)
                   have x11:=hx11.cell 1
                   simp only[FF] at x11
                   have y11:=hx11.frozen 1
                   have hxl11:=hx11.lt
                   have hxs:=hx11.set_ 1 (.slice (some ⟨g,0,none⟩) (j+1) cap1)
                   simp only[Array.setIfInBounds] at hxs
                   have ms:MT 0 [105] w11 (w11.setCell ⟨wo.heap.size+1,1,none⟩ (.slice (some ⟨g,0,none⟩) (j+1) cap1)):=MT.setCell (MT.refl w11) hx11 (by simp) (Fz) _
                   have HXS:=Fx hxs
                   have HB11:=Fx (hb11.setCell (p:=⟨wo.heap.size+1,1,none⟩) (by simp) (.slice (some ⟨g,0,none⟩) (j+1) cap1))
                   have HO11:=Fx (ms.ownsRow hown2 (by decide))
                   clear hown2 hgrow2 hat2 hlt2 hb11 hne hx11 hxs ms
                   go_wp2_with fail
                   go_roundw
                   case rel=>exact⟨j+1,some ⟨g,0,none⟩,cap1,by omega,by go_num,HB11,Fx (by simpa using HXS.out),Fx (by rw[HJT.out];exact HO11.out)⟩
                   case measure=>simp [intOf];omega
                  ·obtain rfl:j=m:=by omega
                   have jt:=JO.out
                   rw[List.take_of_length_le (by rw[HMM.out];exact FA)] at jt
                   have JT:=Fx jt
                   have x0:=JX.out.cell 0
                   have x1:=JX.out.cell 1
                   simp only[FF] at x0 x1
                   have hxl:=JX.out.lt
                   have hp12:=HPr.out.keep JB.out
                   have p2:=hp12.q.cell 2
                   simp only[FF] at p2
                   have hnl:=hp12.q.lt
                   have hns2:=hp12.s
                   have RW2:=Fx ((MT.ofBelow (B:=0) (Ts:=[]) JB.out).ownsRow RW.out (by simp))
                   have HP12:=Fx hp12
                   clear jt JO hp12
                   go_wp2_with (at_builtin;refine wpList_append_lies _ rfl (.tmp 76) (.tmp 78) 48 rfl (w.heap.size+3) 105 ia0 (.agg #[.string ⟨#[]⟩,.slice none 0 0]) 2 40 underlying48 hia ha0 ha1 ha2 rfl (by decide) (.slice aa i2 ac) i2 _ rfl (RW2.out.alloc _) ⟨_,0,none⟩ 1 1 [.string ⟨y.1.1.toArray⟩,.slice ja j jc] rfl rfl (World.news_of_block (af.new _ _ _)) (by simp [Value.oneCell']) (by decide) ?c3 ?c5 ?c4 _ rfl ?_)
                   case c3=>unfold maxLen;omega
                   case c5=>omega
                   case c4=>simp;omega
                   intro g cap1 w13 hown2 hgrow2 hat2 hlt2
                   have hb13:Below (w.heap.size+3) wr w13:=((Below.refl _ wr).alloc hns2 _).grown hgrow2 (by simp;omega) (fun q hq=>(RW2.out.lt q hq).1)
                   have m13:MT 0 [105,50] wr w13:=((MT.refl wr).alloc _).grown hgrow2 (RW2.out.alloc _) (by simp) (Fz)
                   have hp13:=HP12.out.below hb13
                   have p13:=hp13.q.cell 2
                   simp only[FF] at p13
                   have y13:=hp13.q.frozen 2
                   have hnl13:=hp13.q.lt
                   have ms:MT 0 [50] w13 (w13.setCell ⟨w.heap.size,2,none⟩ (.slice (some ⟨g,0,none⟩) (i2+1) cap1)):=MT.setCell (MT.refl w13) hp13.q (by simp) (Fz) _
                   have hps:=hp13.store 2 (.slice (some ⟨g,0,none⟩) (i2+1) cap1)
                   simp only[Array.setIfInBounds] at hps
                   have mi:=m13.trans (ms.wide (by simp))
                   have mall:MT 0 [105,50] wo _:=(MT.ofBelow JB.out).trans mi
                   have HPS:=Fx hps
                   have HO13:=Fx (ms.ownsRow hown2 (by decide))
                   have OW13:=Fx (mall.ownsRow OW.out (by decide))
                   have HW13:=Fx (mall.ownsRow HWr.out (by decide))
                   have HA13:=Fx (HAr.out.mt mall (by decide) (by decide))
                   have hnew:mg (w.heap.size+3) (w13.setCell ⟨w.heap.size,2,none⟩ (.slice (some ⟨g,0,none⟩) (i2+1) cap1)) [.string ⟨y.1.1.toArray⟩,.slice ja j jc] (cH y):=by
                    refine⟨_,rfl,?_⟩
                    have:=mi.ownsRow (World.ownsRow.low JT.out hns) (by decide)
                    simp only[cH,List.length_map,List.flatMap_map]
                    rw[HMM.out]
                    exact this
                   have RA13:=Fx (aH.snoc hnew (RA.out.mono fun b a h=>h.mt mall (by decide)))
                   clear hown2 hgrow2 hat2 hlt2 hb13 m13 hp13 ms hps mi mall hnew
                   go_wp2_with fail
                   go_roundw
                   case rel=>exact⟨i2+1,some ⟨g,0,none⟩,cap1,rows++[[.string ⟨y.1.1.toArray⟩,.slice ja j jc]],by omega,by go_num,Fx (by simpa using HPS.out),OW13,HW13,HA13,Fx (by have:=HO13.out;simpa [List.flatten_append] using this),Fx (by rw[HRA2.out];exact RA13.out)⟩
                   case measure=>simp [intOf];omega
                ·obtain rfl:i2=M:=by omega
                 have ra:=RA.out
                 rw[List.take_of_length_le (by rw[HM.out];exact FA)] at ra
                 obtain⟨hl6,ht5⟩:=pb HL5.out
                 have hts:=nj ht5
                 have hst:aI wo (.slice oa o.length oc) o:=aV.strs (show aV (w.heap.size+3) wo _ o from OW.out) (by omega)
                 have hAt:aK wo (.slice aa i2 ac) (l.map cH):=uf RW.out (by rw[List.length_map,HM.out]) ra (by rw[List.length_map];omega) (by
                  intro a ha
                  obtain⟨z,hz,rfl⟩:=List.mem_map.1 ha
                  have:=ht5 z hz
                  simp only[cH,List.length_map]
                  omega)
                 have hdb:=lR wo _ o hst
                 have hun:=jq wo ⟨x.1.toArray⟩ _ _ o (l.map cH) hst hAt (by rw[List.length_map];omega) (by omega)
                 have hol2:o.length=k:=by rw[HE3.out,List.length_map,HN.out]
                 have hq:=HQ6.out
                 rw[<-HE3.out,fN] at hq
                 have p0:=HPr.out.q.cell 0
                 have p1:=HPr.out.q.cell 1
                 have p2:=HPr.out.q.cell 2
                 simp only[FF] at p0 p1 p2
                 have hnl:=HPr.out.q.lt
                 have hrow:=uj (hs:=hs) (by rw[HN.out];exact HWr.out) (by rw[HN.out];omega)
                 have HROW:=Fx hrow
                 have HUN:=Fx hun
                 have HDB:=Fx hdb
                 have RA3:=Fx ra
                 have HOL2:=Fx hol2
                 clear hun hdb ra hst hAt hts ht5 hl6 RA HAr hrow hol2
                 split at hq
                 ·rename_i h he1 he2
                  have hd0:=of_decide_eq_true he2
                  obtain⟨j,hj,_,hjl⟩:=iY o [] 0 hd0
                  have hj2:fA o=(j:Int):=hj
                  rw[hj2,Int.toNat_natCast] at he1
                  rw[hj2] at HDB
                  have hjk:j<k:=by have:=HOL2.out;omega
                  obtain⟨b,off,cap',hv,_,_,hbl,hce⟩:=HROW.out.get (i:=j) (x:=dw h) (by simp [he1])
                  simp only[List.length_map,HN.out,Value.slice.injEq,true_and] at hv
                  obtain⟨rfl,rfl⟩:=hv
                  have q0:=hce 0 _ rfl
                  have q1:=hce 1 _ rfl
                  simp only[Nat.add_zero] at q0
                  subst hq
                  clear he1 he2 hd0 hj hjl hj2 hce
                  go_wp2_with fail
                  refine HDB.out.mono ?_
                  rintro e wx ⟨rfl,rfl⟩
                  go_wp2_with fail
                  exact cC HPr.out rfl rfl rfl
                 ·rename_i hno
                  have hdn:decide (0<=fA o)=false:=by
                   rw[decide_eq_false_iff_not]
                   intro hd0
                   obtain⟨j,hj,_,hjl⟩:=iY o [] 0 hd0
                   have hj2:fA o=(j:Int):=hj
                   have hjk:j<hs.length:=by have:=HOL2.out;have:=HN.out;omega
                   exact hno hs[j] (by rw[hj2,Int.toNat_natCast];exact FD hjk) (decide_eq_true hd0)
                  clear hno
                  generalize fA o=d0 at *
                  split at hq
                  ·rename_i h he1 he2
                   have hd0:=of_decide_eq_true he2
                   obtain⟨j,hj2,hjl⟩:=jO hd0
                   have hj3:cj (cg (l.map cH)) o=(j:Int):=hj2
                   rw[hj3,Int.toNat_natCast] at he1
                   rw[hj3] at HUN
                   have hjk:j<k:=by have:=HOL2.out;simp at hjl;omega
                   subst hq
                   have HE1:=Fx he1
                   clear he1 he2 hd0 hj2 hjl hj3
                   go_wp2_with fail
                   refine HDB.out.mono ?_
                   rintro e wx ⟨rfl,rfl⟩
                   go_wp2_with fail
                   refine HUN.out.mono ?_
                   rintro e w14 ⟨rfl,hb14⟩
                   obtain⟨b,off,cap',hv,_,_,hbl,hce⟩:=(HROW.out.keep hb14).get (i:=j) (x:=dw h) (by simp [HE1.out])
                   simp only[List.length_map,HN.out,Value.slice.injEq,true_and] at hv
                   obtain⟨rfl,rfl⟩:=hv
                   have q0:=hce 0 _ rfl
                   have q1:=hce 1 _ rfl
                   simp only[Nat.add_zero] at q0
                   have HP14:=Fx (HPr.out.keep hb14)
                   clear hce hb14
                   go_wp2_with fail
                   exact cC HP14.out rfl rfl rfl
                  ·rename_i hno
                   have hdn2:decide (0<=cj (cg (l.map cH)) o)=false:=by
                    rw[decide_eq_false_iff_not]
                    intro hd0
                    obtain⟨j,hj2,hjl⟩:=jO hd0
                    have hj3:cj (cg (l.map cH)) o=(j:Int):=hj2
                    have hjk:j<hs.length:=by have:=HOL2.out;have:=HN.out;simp at hjl;omega
                    exact hno hs[j] (by rw[hj3,Int.toNat_natCast];exact FD hjk) (decide_eq_true hd0)
                   clear hno
                   generalize cj (cg (l.map cH)) o=d1 at *
                   subst hq
                   go_wp2_with fail
                   refine HDB.out.mono ?_
                   rintro e wx ⟨rfl,rfl⟩
                   go_wp2_with fail
                   refine HUN.out.mono ?_
                   rintro e w14 ⟨rfl,hb14⟩
                   have hp14:=HPr.out.keep hb14
                   have z0:=hp14.q.cell 0
                   have z1:=hp14.q.cell 1
                   have z2:=hp14.q.cell 2
                   have z3:=hp14.a.cell 0
                   have z4:=hp14.e.cell 0
                   simp only[FF] at z0 z1 z2 z3 z4
                   have u0:=hp14.q.frozen 0
                   have u1:=hp14.q.frozen 1
                   have u2:=hp14.q.frozen 2
                   have u3:=hp14.a.frozen 0
                   have u4:=hp14.e.frozen 0
                   have hnl14:=hp14.q.lt
                   have hna14:=hp14.a.lt
                   have hne14:=hp14.e.lt
                   obtain⟨hfin,mfin⟩:=hp14.fin
                   have mall:=(MT.ofBelow (B:=0) (Ts:=[50,3,29]) hb14).trans mfin
                   have hpost:kF w (.ok (cJ x hs l) []) (.returned (.tuple #[.agg #[.string ⟨x.1.toArray⟩,.slice oa o.length oc,.slice aa i2 ac],.int .i64 0,.int .i64 0])) _ :=
                    ⟨_,_,rfl,by
                     show aV _ _ _ (hs.map (·.1))
                     rw[<-HE3.out]
                     exact World.ownsRow.low (mall.ownsRow OW.out (by decide)) (by omega),⟨rows,by
                     show World.ownsRow _ _ _ _ _ (l.map cH).length _
                     rw[List.length_map,HM.out]
                     exact World.ownsRow.low (mall.ownsRow RW.out (by decide)) (by omega),RA3.out.mono fun b a hh=>by
                     obtain⟨tv,rfl,h2⟩:=hh
                     exact⟨tv,rfl,World.ownsRow.low (mall.ownsRow h2 (by decide)) (by omega)⟩⟩,hfin.b⟩
                   have HFIN:=Fx hfin
                   have HPOST:=Fx hpost
                   clear hb14 hp14 hfin mfin mall hpost
                   go_wp2_with fail
                   exact vF HFIN.out rfl rfl rfl rfl rfl rfl HPOST.out
theorem vW (s:ByteArray) (w:World) (hs:s.size<=281474976710656) (hg:bY w) (he:(aN s.data.toList).e=0) :
 Calls prog 61 #[.string s] w (kF w (fm (aN s.data.toList).ts)) :=
 wm s w _ fun W hb=>iM s W hs (hg.below hb) he
theorem sO (s:ByteArray) (w:World) (hs:s.size<=281474976710656) (hg:bY w) (he:(aN s.data.toList).e≠0) :
 Calls prog 61 #[.string s] w (kF w (.bad (aN s.data.toList).at_ (aN s.data.toList).e)) :=
 xD s w _ _ fun W hb=>mP s W hs (hg.below hb) he
