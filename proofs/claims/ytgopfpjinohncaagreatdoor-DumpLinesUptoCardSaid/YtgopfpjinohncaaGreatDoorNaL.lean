/- The order of rows: row.Compare, osierref02.Compare, walked. ValueOrders, walked; the plain law of the order. Plain laws of Net: the order of changes, the document's list, and that a strictly sorted list is known by its members. -/
import Derived.Test.YtgopfpjinohncaaGreatDoorLeL
import Derived.Test.YtgopfpjinohncaaGreatDoorGbL
import Derived.Test.YtgopfpjinohncaaGreatDoorGmL
import Derived.Test.YtgopfpjinohncaaGreatDoorGaL
import Derived.Test.YtgopfpjinohncaaGreatDoorJyL
import Derived.Deep.RegionLaw
import Derived.Shelf.Abstract
import Derived.Sort.Grow
import Derived.Deep.RegionHeld3
namespace Go.Proofs.YtgopfpjinohncaaGreatDoor
open Go.RowKit
set_option linter.unusedVariables false
def cmpU (a b:Vl):Int:=cmpV a.k a.n ⟨a.t.toArray⟩ b.k b.n ⟨b.t.toArray⟩
def cmpRow:List Vl->List Vl->Int
 | [],[]=>0
 | [],_::_ => -1
 | _::_,[]=>1
 | a::l,b::m=>if cmpU a b=0 then cmpRow l m else cmpU a b
theorem cmpRow_step {l m:List Vl} {k:Nat} {a b:Vl} (ha:l[k]? = some a) (hb:m[k]? = some b):cmpRow (l.drop k) (m.drop k)=if cmpU a b=0 then cmpRow (l.drop (k+1)) (m.drop (k+1)) else cmpU a b:=by
 rw[List.drop_eq_getElem_cons (List.getElem?_eq_some_iff.1 ha).1,(List.getElem?_eq_some_iff.1 ha).2,List.drop_eq_getElem_cons (List.getElem?_eq_some_iff.1 hb).1,(List.getElem?_eq_some_iff.1 hb).2]
 rfl
theorem cmpRow_long {l m:List Vl} {k:Nat} (ha:k<l.length) (hb:m.length<=k):cmpRow (l.drop k) (m.drop k)=1:=by
 rw[List.drop_eq_getElem_cons ha,List.drop_eq_nil_of_le hb]
 rfl
theorem cmpRow_end {l m:List Vl} (h:l.length<=m.length):cmpRow (l.drop l.length) (m.drop l.length)=if l.length<m.length then -1 else 0:=by
 rw[List.drop_eq_nil_of_le (Nat.le_refl _)]
 by_cases h1:l.length<m.length
 ·rw[if_pos h1,List.drop_eq_getElem_cons h1]
  rfl
 ·rw[if_neg h1,List.drop_eq_nil_of_le (by omega)]
  rfl
structure Grw (w w':World):Prop where
 b:Below w.heap.size w w'
 d:w.drawn<=w'.drawn
theorem Grw.refl (w:World):Grw w w:=⟨Below.refl _ _,Nat.le_refl _⟩
theorem Grw.trans {a b c:World} (h:Grw a b) (k:Grw b c):Grw a c:=⟨bt2 h.b k.b,Nat.le_trans h.d k.d⟩
theorem Grw.alloc {a w:World} (h:Grw a w) (o:Obj):Grw a (w.alloc o):=⟨balloc h.b o,h.d⟩
theorem Grw.drew {a w:World} (h:Grw a w):Grw a w.drew:=⟨bdrew h.b,Nat.le_succ_of_le h.d⟩
theorem Grw.drewN {a w:World} (h:Grw a w) (n:Nat):Grw a (w.drewN n):=⟨bdrewN h.b n,Nat.le_trans h.d (Nat.le_add_right _ _)⟩
theorem Grw.form {w w':World} (h:Grw w w'):∃ (q:Nat) (os:Array Obj),w'=Sort.grow (w.drewN q) os:=by
 refine⟨w'.drawn - w.drawn,w'.heap.extract w.heap.size w'.heap.size,?_⟩
 obtain⟨⟨h1,h2,h3,h4,h5⟩,h6⟩:=h
 obtain⟨hp,tp,dr,os,out⟩:=w'
 simp only at h1 h2 h3 h4 h5 h6
 subst h1 h2 h3
 unfold Sort.grow World.drewN
 simp only[World.mk.injEq,true_and,and_true]
 refine⟨?_,by omega⟩
 apply Array.ext_getElem?
 intro i
 by_cases hi:i<w.heap.size
 ·rw[Array.getElem?_append_left hi]
  exact h5 i hi
 ·rw[Array.getElem?_append_right (by omega),Array.getElem?_extract]
  by_cases h7:i<hp.size
  ·rw[if_pos (by omega)]
   congr 1
   omega
  ·rw[if_neg (by omega)]
   exact Array.getElem?_eq_none (by omega)
set_option maxHeartbeats 2000000 in
theorem compareG_any (k1 n1:Int) (t1:ByteArray) (k2 n2:Int) (t2:ByteArray) (w:World) :
 Calls Tryz.prog 176 #[.agg #[.int .i64 k1,.int .i64 n1,.string t1],.agg #[.int .i64 k2,.int .i64 n2,.string t2]] w fun e w' =>
  e=.returned (.int .i64 (cmpV k1 n1 t1 k2 n2 t2))/\Grw w w':=by
 go_enter Tryz.func176,Tryz.ntmps176
 go_wp2_with fail
 go_region_held3 (fun w'=>w'.cell? ⟨w.heap.size,0,none⟩=some (.int .i64 k1)/\w'.cell? ⟨w.heap.size,1,none⟩=some (.int .i64 n1)/\w'.cell? ⟨w.heap.size,2,none⟩=some (.string t1) /\
  w'.cell? ⟨w.heap.size+1,0,none⟩=some (.int .i64 k2)/\w'.cell? ⟨w.heap.size+1,1,none⟩=some (.int .i64 n2)/\w'.cell? ⟨w.heap.size+1,2,none⟩=some (.string t2)) (go_keep)
  (first | (go_at_call 229;refine (cmpKind_any _ _ _).mono ?_;rintro e w' ⟨rfl,rfl⟩)
         | (go_at_call 230;refine (cmpInt_any _ _ _).mono ?_;rintro e w' ⟨rfl,rfl⟩)
         | (go_at_call 231;refine (Tryz.strings_Compare _ _ _).mono ?_;rintro e w' ⟨rfl,rfl⟩)
         | (go_at_call 228;refine (or_any (cmpI k1 k2) (cmpI n1 n2) (Lib.compareBytes t1.data.toList t2.data.toList) _ _ (by simp [go_sem]) (by simp [go_sem]) (by simp [go_sem])).mono ?_;rintro e w' ⟨rfl,rfl⟩))
 go_wp2
 go_ret
 exact⟨rfl,by repeat (first | exact Grw.refl _ | refine Grw.drewN ?_ _ | refine Grw.drew ?_ | refine Grw.alloc ?_ _)⟩
set_option maxHeartbeats 8000000 in
set_option maxRecDepth 100000 in
theorem compareFuncG_any (w:World) (va vb:Value) (a b:List Vl) (ha:RowAt w va 3 (a.map Vl.cells)) (hb:RowAt w vb 3 (b.map Vl.cells)) :
 Calls Tryz.prog 175 #[va,vb,.func (.func 176) #[] #[]] w fun e w'=>e=.returned (.int .i64 (cmpRow a b))/\Grw w w':=by
 have eg:=enters_of Tryz.func176 (by kernel_rfl) rfl
 obtain⟨aa,ac,rfl,hac,ham⟩:=ha.form
 obtain⟨ba,bc,rfl,hbc,hbm⟩:=hb.form
 have hla:=ha.len
 have hlb:=hb.len
 unfold maxLen at ham hbm
 simp only[List.length_map] at hac hbc hla hlb ha hb ⊢
 have HA:=Lib.hid ha
 have HB:=Lib.hid hb
 obtain⟨RES,hRES⟩:∃ RES,RES=cmpRow (a.drop 0) (b.drop 0):=⟨_,rfl⟩
 rw[show cmpRow a b=RES by rw[hRES];rfl]
 have HQ0:=Lib.hid hRES
 clear ha hb hRES
 generalize hN:a.length=n at *
 generalize hM:b.length=m at *
 have HN:=Lib.hid hN
 have HM:=Lib.hid hM
 clear hN hM
 go_enter Tryz.func175,Tryz.ntmps175
 go_wp2_with fail
 go_loopw [13] (fun i wr=>∃ k:Nat,k<=n/\k<=m/\i=.int .i64 k/\Hid (RES=cmpRow (a.drop k) (b.drop k))/\Hid (Grw w wr)) (fun i _=>n - (intOf i).toNat)
 case atStart=>exact⟨0,Nat.zero_le _,Nat.zero_le _,rfl,HQ0,Lib.hid (Grw.refl _)⟩
 case round =>
  obtain⟨k,hk,hkm,rfl,HQ,BW⟩:=hrel
  obtain⟨wo,rfl⟩:∃ wo:World,wo=wr:=⟨_,rfl⟩
  clear HQ0
  by_cases hlt:k<n
  ·obtain⟨u,hu⟩:∃ u,a[k]? = some u:=⟨a[k]'(by rw[HN.out];exact hlt),List.getElem?_eq_getElem (by rw[HN.out];exact hlt)⟩
   obtain⟨ab,ao,acap,hav,_,_,hal,hac'⟩:=(HA.out.keep BW.out.b).get (i:=k) (x:=u.cells) (by simp [hu])
   simp only[List.length_map,HN.out,Value.slice.injEq,true_and] at hav
   obtain⟨rfl,rfl⟩:=hav
   have p0:=hac' 0 _ rfl
   have p1:=hac' 1 _ rfl
   have p2:=hac' 2 _ rfl
   simp only[Nat.add_zero] at p0
   have hdk:decide ((k:Int)<0)=false:=by simp
   have hdn:decide ((n:Int)<=(k:Int))=false:=by simp;omega
   by_cases hltm:k<m
   ·obtain⟨v,hv⟩:∃ v,b[k]? = some v:=⟨b[k]'(by rw[HM.out];exact hltm),List.getElem?_eq_getElem (by rw[HM.out];exact hltm)⟩
    have hst:=cmpRow_step hu hv
    have HCV:=Lib.hid (fun W=>compareG_any u.k u.n ⟨u.t.toArray⟩ v.k v.n ⟨v.t.toArray⟩ W)
    obtain⟨bb,bo,bcap,hbv,_,_,hbl,hbc'⟩:=(HB.out.keep (BW.out.alloc (.cells #[.int .i64 u.k,.int .i64 u.n,.string ⟨u.t.toArray⟩] 111)).b).get (i:=k) (x:=v.cells) (by simp [hv])
    simp only[List.length_map,HM.out,Value.slice.injEq,true_and] at hbv
    obtain⟨rfl,rfl⟩:=hbv
    have r0:=hbc' 0 _ rfl
    have r1:=hbc' 1 _ rfl
    have r2:=hbc' 2 _ rfl
    simp only[Nat.add_zero] at r0
    have hdm:decide ((m:Int)<=(k:Int))=false:=by simp;omega
    have bk:Grw wo ((wo.alloc (.cells #[.int .i64 u.k,.int .i64 u.n,.string ⟨u.t.toArray⟩] 111)).alloc (.cells #[.int .i64 v.k,.int .i64 v.n,.string ⟨v.t.toArray⟩] 111)):=((Grw.refl _).alloc _).alloc _
    have x8:=(Blk.new wo 111 #[.int .i64 u.k,.int .i64 u.n,.string ⟨u.t.toArray⟩])
    obtain⟨W1,hW1⟩:∃ W1,wo.alloc (.cells #[.int .i64 u.k,.int .i64 u.n,.string ⟨u.t.toArray⟩] 111)=W1:=⟨_,rfl⟩
    rw[hW1] at bk x8 r0 r1 r2 hbl
    have x9:=Blk.new W1 111 #[.int .i64 v.k,.int .i64 v.n,.string ⟨v.t.toArray⟩]
    have x8':=x8.alloc (.cells #[.int .i64 v.k,.int .i64 v.n,.string ⟨v.t.toArray⟩] 111)
    obtain⟨W2,hW2⟩:∃ W2,W1.alloc (.cells #[.int .i64 v.k,.int .i64 v.n,.string ⟨v.t.toArray⟩] 111)=W2:=⟨_,rfl⟩
    rw[hW2] at bk x9 x8'
    have c0:=x8'.cell 0
    have c1:=x8'.cell 1
    have c2:=x8'.cell 2
    have cl:=x8'.lt
    have d0:=x9.cell 0
    have d1:=x9.cell 1
    have d2:=x9.cell 2
    have dl:=x9.lt
    simp only[List.getElem?_toArray,List.getElem?_cons_zero,List.getElem?_cons_succ] at c0 c1 c2 d0 d1 d2
    have HW1:=Lib.hid hW1
    have HW2:=Lib.hid hW2
    have HBK:=Lib.hid bk
    have HST:=Lib.hid hst
    clear hu hv hst bk x8 x9 x8' hW1 hW2 hac' hbc'
    go_upto_region 4 with fail
    rw[HW1.out]
    clear p0 p1 p2
    go_upto_region 7 with fail
    rw[HW2.out]
    clear r0 r1 r2
    go_wp2_with fail
    refine (HCV.out W2).mono ?_
    rintro e w5 ⟨rfl,hb5⟩
    have HB5:=Lib.hid (BW.out.trans (HBK.out.trans hb5))
    clear hb5 c0 c1 c2 cl d0 d1 d2 dl
    obtain⟨cc,hcc⟩:∃ cc,cmpU u v=cc:=⟨_,rfl⟩
    rw[show cmpV u.k u.n ⟨u.t.toArray⟩ v.k v.n ⟨v.t.toArray⟩=cc from hcc]
    have hq:=HQ.out.trans HST.out
    rw[hcc] at hq
    by_cases h0:cc=0
    ·have q0:(cc != 0)=false:=by simp [h0]
     rw[if_pos h0] at hq
     have HQ2:=Lib.hid hq
     clear h0 hq hcc
     go_wp2_with fail
     go_roundw
     case rel=>exact⟨k+1,by omega,by omega,by go_num,HQ2,HB5⟩
     case measure=>simp [intOf];omega
    ·have q0:(cc != 0)=true:=by simpa using h0
     rw[if_neg h0] at hq
     subst hq
     clear h0 hcc
     go_wp2_with fail
     go_ret
     exact⟨by first | rfl | simp,HB5.out⟩
   ·obtain rfl:k=m:=by omega
    have hq:=HQ.out
    rw[cmpRow_long (by rw[HN.out];exact hlt) (by rw[HM.out];exact Nat.le_refl _)] at hq
    subst hq
    have hdm:decide ((k:Int)<=(k:Int))=true:=by simp
    have HBX:=Lib.hid (BW.out.alloc (.cells #[.int .i64 u.k,.int .i64 u.n,.string ⟨u.t.toArray⟩] 111))
    clear hu hac'
    go_wp2_with fail
    go_ret
    exact⟨by first | rfl | simp,HBX.out⟩
  ·obtain rfl:k=n:=by omega
   have hq:=HQ.out
   have he:=cmpRow_end (l:=a) (m:=b) (by rw[HN.out,HM.out];exact hkm)
   rw[HN.out,HM.out] at he
   rw[he] at hq
   by_cases h1:k<m
   ·rw[if_pos h1] at hq
    subst hq
    have hd1:decide ((k:Int)<(m:Int))=true:=by simp;omega
    go_wp2_with fail
    go_ret
    exact⟨by first | rfl | simp,BW.out⟩
   ·rw[if_neg h1] at hq
    subst hq
    have hd1:decide ((k:Int)<(m:Int))=false:=by simp;omega
    go_wp2_with fail
    go_ret
    exact⟨by first | rfl | simp,BW.out⟩
set_option maxHeartbeats 2000000 in
set_option maxRecDepth 100000 in
theorem rowCompareG_any (w:World) (va vb:Value) (a b:List Vl) (ha:RowAt w va 3 (a.map Vl.cells)) (hb:RowAt w vb 3 (b.map Vl.cells)) :
 Calls Tryz.prog 93 #[va,vb] w fun e w'=>e=.returned (.int .i64 (cmpRow a b))/\Grw w w':=by
 have hc:=compareFuncG_any w va vb a b ha hb
 obtain⟨aa,ac,rfl,_,_⟩:=ha.form
 obtain⟨ba,bc,rfl,_,_⟩:=hb.form
 simp only[List.length_map] at hc ⊢
 have HC:=Lib.hid hc
 clear ha hb hc
 generalize a.length=n at *
 generalize b.length=m at *
 go_enter Tryz.func93,Tryz.ntmps93
 go_wp2_with fail
 refine HC.out.mono ?_
 rintro e w1 ⟨rfl,hb1⟩
 have HB1:=Lib.hid hb1
 clear hb1
 go_wp2_with fail
 go_ret
 exact⟨by first | rfl | simp,HB1.out⟩
theorem rowCompare_any (w:World) (va vb:Value) (a b:List Vl) (ha:RowAt w va 3 (a.map Vl.cells)) (hb:RowAt w vb 3 (b.map Vl.cells)) :
 Calls Tryz.prog 93 #[va,vb] w fun e w'=>e=.returned (.int .i64 (cmpRow a b))/\Below w.heap.size w w' :=
 (rowCompareG_any w va vb a b ha hb).mono fun _ _ h=>⟨h.1,h.2.b⟩
set_option maxHeartbeats 8000000 in
set_option maxRecDepth 100000 in
theorem refRowCompare_any (w:World) (va vb:Value) (a b:List Vl) (ha:RowAt w va 3 (a.map Vl.cells)) (hb:RowAt w vb 3 (b.map Vl.cells)) (ht:∀ u∈a,u.t.length<=281474976710656) :
 Calls Tryz.prog 177 #[va,vb] w fun e w'=>e=.returned (.int .i64 (cmpRow a b))/\Below w.heap.size w w':=by
 obtain⟨aa,ac,rfl,hac,ham⟩:=ha.form
 obtain⟨ba,bc,rfl,hbc,hbm⟩:=hb.form
 have hla:=ha.len
 have hlb:=hb.len
 unfold maxLen at ham hbm
 simp only[List.length_map] at hac hbc hla hlb ha hb ⊢
 have HA:=Lib.hid ha
 have HB:=Lib.hid hb
 have HT:=Lib.hid ht
 obtain⟨RES,hRES⟩:∃ RES,RES=cmpRow (a.drop 0) (b.drop 0):=⟨_,rfl⟩
 rw[show cmpRow a b=RES by rw[hRES];rfl]
 have HQ0:=Lib.hid hRES
 clear ha hb hRES ht
 generalize hN:a.length=n at *
 generalize hM:b.length=m at *
 have HN:=Lib.hid hN
 have HM:=Lib.hid hM
 clear hN hM
 go_enter Tryz.func177,Tryz.ntmps177
 go_wp2_with fail
 go_loopw [5] (fun i wr=>∃ k:Nat,k<=n/\k<=m/\i=.int .i64 k/\Hid (RES=cmpRow (a.drop k) (b.drop k))/\Hid (Below w.heap.size w wr)) (fun i _=>n - (intOf i).toNat)
 case atStart=>exact⟨0,Nat.zero_le _,Nat.zero_le _,rfl,HQ0,Lib.hid (Below.refl _ _)⟩
 case round =>
  obtain⟨k,hk,hkm,rfl,HQ,BW⟩:=hrel
  obtain⟨wo,rfl⟩:∃ wo:World,wo=wr:=⟨_,rfl⟩
  clear HQ0
  by_cases hlt:k<n
  ·have hdk:decide ((k:Int)<0)=false:=by simp
   have hdn:decide ((n:Int)<=(k:Int))=false:=by simp;omega
   by_cases hltm:k<m
   ·obtain⟨u,hu⟩:∃ u,a[k]? = some u:=⟨a[k]'(by rw[HN.out];exact hlt),List.getElem?_eq_getElem (by rw[HN.out];exact hlt)⟩
    obtain⟨v,hv⟩:∃ v,b[k]? = some v:=⟨b[k]'(by rw[HM.out];exact hltm),List.getElem?_eq_getElem (by rw[HM.out];exact hltm)⟩
    obtain⟨ab,ao,acap,hav,_,_,hal,hac'⟩:=(HA.out.keep BW.out).get (i:=k) (x:=u.cells) (by simp [hu])
    simp only[List.length_map,HN.out,Value.slice.injEq,true_and] at hav
    obtain⟨rfl,rfl⟩:=hav
    have p0:=hac' 0 _ rfl
    have p1:=hac' 1 _ rfl
    have p2:=hac' 2 _ rfl
    obtain⟨bb,bo,bcap,hbv,_,_,hbl,hbc'⟩:=(HB.out.keep BW.out).get (i:=k) (x:=v.cells) (by simp [hv])
    simp only[List.length_map,HM.out,Value.slice.injEq,true_and] at hbv
    obtain⟨rfl,rfl⟩:=hbv
    have r0:=hbc' 0 _ rfl
    have r1:=hbc' 1 _ rfl
    have r2:=hbc' 2 _ rfl
    simp only[Nat.add_zero] at p0 r0
    have hdm:decide ((m:Int)<=(k:Int))=false:=by simp;omega
    have hst:=cmpRow_step hu hv
    have hts:=HT.out u (List.mem_of_getElem? hu)
    have HCV:=Lib.hid (fun W=>refCompare_any u.k u.n ⟨u.t.toArray⟩ v.k v.n ⟨v.t.toArray⟩ W (by simpa [ByteArray.size] using hts))
    have HST:=Lib.hid hst
    clear hu hv hst hac' hbc' hts
    go_wp2_with fail
    go_region_law (go_simp;go_at_call 232;refine (HCV.out _).mono ?_;rintro e w5 ⟨rfl,hb5⟩;have HB5:=Lib.hid (bt2 (bdrew (Below.refl wo.heap.size wo)) hb5);clear hb5)
    all_goals
     have HB6:=Lib.hid (BW.out.trans (HB5.out.mono BW.out.size))
     clear p0 p1 p2 r0 r1 r2
     obtain⟨cc,hcc⟩:∃ cc,cmpU u v=cc:=⟨_,rfl⟩
     rw[show cmpV u.k u.n ⟨u.t.toArray⟩ v.k v.n ⟨v.t.toArray⟩=cc from hcc]
     have hq:=HQ.out.trans HST.out
     rw[hcc] at hq
     by_cases h0:cc=0
     ·have q0:(cc != 0)=false:=by simp [h0]
      rw[if_pos h0] at hq
      have HQ2:=Lib.hid hq
      clear h0 hq hcc
      go_wp2_with fail
      go_roundw
      case rel=>exact⟨k+1,by omega,by omega,by go_num,HQ2,HB6⟩
      case measure=>simp [intOf];omega
     ·have q0:(cc != 0)=true:=by simpa using h0
      rw[if_neg h0] at hq
      subst hq
      clear h0 hcc
      go_wp2_with fail
      go_ret
      exact⟨by first | rfl | simp,HB6.out⟩
   ·obtain rfl:k=m:=by omega
    have hq:=HQ.out
    rw[cmpRow_long (by rw[HN.out];exact hlt) (by rw[HM.out];exact Nat.le_refl _)] at hq
    subst hq
    have hdm:decide ((k:Int)<=(k:Int))=true:=by simp
    go_wp2_with fail
    go_ret
    exact⟨by first | rfl | simp,BW.out⟩
  ·obtain rfl:k=n:=by omega
   have hq:=HQ.out
   have he:=cmpRow_end (l:=a) (m:=b) (by rw[HN.out,HM.out];exact hkm)
   rw[HN.out,HM.out] at he
   rw[he] at hq
   by_cases h1:k<m
   ·rw[if_pos h1] at hq
    subst hq
    have hd1:decide ((k:Int)<(m:Int))=true:=by simp;omega
    go_wp2_with fail
    go_ret
    exact⟨by first | rfl | simp,BW.out⟩
   ·rw[if_neg h1] at hq
    subst hq
    have hd1:decide ((k:Int)<(m:Int))=false:=by simp;omega
    go_wp2_with fail
    go_ret
    exact⟨by first | rfl | simp,BW.out⟩
theorem cmpI_vals (a b:Int):cmpI a b = -1/\a<b∨cmpI a b=0/\a=b∨cmpI a b=1/\b<a:=by
 unfold cmpI;by_cases h:a<b
 ·simp [h]
 ·by_cases h2:b<a
  ·simp [h,h2]
  ·simp [h,h2];omega
theorem cb_vals:∀ (a b:List UInt8),Lib.compareBytes a b = -1∨Lib.compareBytes a b=0∨Lib.compareBytes a b=1
 | [],[]=>by simp [Lib.compareBytes]
 | [],_::_=>by simp [Lib.compareBytes]
 | _::_,[]=>by simp [Lib.compareBytes]
 | x::a,y::b=>by
   unfold Lib.compareBytes
   split
   ·simp
   ·split
    ·simp
    ·exact cb_vals a b
theorem cb_refl:∀ (a:List UInt8),Lib.compareBytes a a=0
 | []=>rfl
 | x::a=>by unfold Lib.compareBytes;simp [UInt8.lt_irrefl,cb_refl a]
theorem cb_eq:∀ (a b:List UInt8),Lib.compareBytes a b=0->a=b
 | [],[],_=>rfl
 | [],_::_,h=>by simp [Lib.compareBytes] at h
 | _::_,[],h=>by simp [Lib.compareBytes] at h
 | x::a,y::b,h=>by
   unfold Lib.compareBytes at h
   by_cases h1:x<y
   ·simp [h1] at h
   ·by_cases h2:y<x
    ·simp [h1,h2] at h
    ·simp [h1,h2] at h
     have e:x=y:=by
      have:=UInt8.le_antisymm (UInt8.not_lt.1 h2) (UInt8.not_lt.1 h1)
      exact this
     rw[e,cb_eq a b h]
theorem cb_anti:∀ (a b:List UInt8),Lib.compareBytes b a = -Lib.compareBytes a b
 | [],[]=>rfl
 | [],_::_=>rfl
 | _::_,[]=>rfl
 | x::a,y::b=>by
   unfold Lib.compareBytes
   by_cases h1:x<y
   ·have h2:¬ y<x:=fun h=>UInt8.lt_irrefl x (UInt8.lt_trans h1 h)
    simp [h1,h2]
   ·by_cases h2:y<x
    ·simp [h1,h2]
    ·simp [h1,h2];exact cb_anti a b
theorem cb_trans:∀ (a b c:List UInt8),Lib.compareBytes a b<=0->Lib.compareBytes b c<=0->Lib.compareBytes a c<=0
 | [],_,[],_,_=>by simp [Lib.compareBytes]
 | [],_,_::_,_,_=>by simp [Lib.compareBytes]
 | _::_,[],_,h,_=>by simp [Lib.compareBytes] at h
 | _::_,_::_,[],_,h=>by simp [Lib.compareBytes] at h
 | x::a,y::b,z::c,h,k=>by
   unfold Lib.compareBytes at h k ⊢
   by_cases h1:x<y
   ·by_cases k1:y<z
    ·simp [UInt8.lt_trans h1 k1]
    ·by_cases k2:z<y
     ·simp [k1,k2] at k
     ·have e:y=z:=UInt8.le_antisymm (UInt8.not_lt.1 k2) (UInt8.not_lt.1 k1)
      simp [e ▸ h1]
   ·by_cases h2:y<x
    ·simp [h1,h2] at h
    ·have e:x=y:=UInt8.le_antisymm (UInt8.not_lt.1 h2) (UInt8.not_lt.1 h1)
     subst e
     by_cases k1:x<z
     ·simp [k1]
     ·by_cases k2:z<x
      ·simp [k1,k2] at k
      ·simp [h1] at h
       simp [k1,k2] at k
       simp [k1,k2]
       exact cb_trans a b c h k
theorem cmpI_anti (a b:Int):cmpI b a = - cmpI a b:=by
 rcases cmpI_vals a b with ⟨e,h⟩ | ⟨e,h⟩ | ⟨e,h⟩<;>rcases cmpI_vals b a with ⟨e',h'⟩ | ⟨e',h'⟩ | ⟨e',h'⟩<;>rw[e,e']<;>omega
theorem orI_neg (x y z:Int):orI (-x) (-y) (-z) = -orI x y z:=by
 unfold orI;by_cases h:x=0<;>by_cases h':y=0<;>simp [h,h']
theorem cmpV_anti (k1 n1:Int) (t1:ByteArray) (k2 n2:Int) (t2:ByteArray):cmpV k2 n2 t2 k1 n1 t1 = -cmpV k1 n1 t1 k2 n2 t2:=by
 unfold cmpV
 rw[cmpI_anti k1 k2,cmpI_anti n1 n2,cb_anti t1.data.toList t2.data.toList,orI_neg]
theorem bytes_ext {a b:ByteArray} (h:a.data.toList=b.data.toList):a=b:=by
 cases a;cases b;congr;exact Array.toList_inj.1 h
theorem cmpV_eq {k1 n1:Int} {t1:ByteArray} {k2 n2:Int} {t2:ByteArray} (h:cmpV k1 n1 t1 k2 n2 t2=0):k1=k2/\n1=n2/\t1=t2:=by
 unfold cmpV orI at h
 rcases cmpI_vals k1 k2 with ⟨e,h1⟩ | ⟨e,h1⟩ | ⟨e,h1⟩<;>simp only[e] at h
 ·simp at h
 ·rcases cmpI_vals n1 n2 with ⟨e',h2⟩ | ⟨e',h2⟩ | ⟨e',h2⟩<;>simp only[e'] at h
  ·simp at h
  ·exact⟨h1,h2,bytes_ext (cb_eq _ _ (by simpa using h))⟩
  ·simp at h
 ·simp at h
theorem cmpI_refl (a:Int):cmpI a a=0:=by simp [cmpI]
theorem cmpV_refl (k n:Int) (t:ByteArray):cmpV k n t k n t=0:=by simp [cmpV,cmpI_refl,cb_refl,orI]
theorem cmpV_le {k1 n1:Int} {t1:ByteArray} {k2 n2:Int} {t2:ByteArray}:cmpV k1 n1 t1 k2 n2 t2<=0 ↔ (k1<k2∨k1=k2/\(n1<n2∨n1=n2/\Lib.compareBytes t1.data.toList t2.data.toList<=0)):=by
 unfold cmpV orI
 rcases cmpI_vals k1 k2 with ⟨e,h⟩ | ⟨e,h⟩ | ⟨e,h⟩<;>simp only[e]
 ·simp;left;exact h
 ·rcases cmpI_vals n1 n2 with ⟨e',h'⟩ | ⟨e',h'⟩ | ⟨e',h'⟩<;>simp only[e']
  ·simp;omega
  ·simp [h,h']
  ·simp;omega
 ·simp;omega
theorem cmpV_trans {k1 n1:Int} {t1:ByteArray} {k2 n2:Int} {t2:ByteArray} {k3 n3:Int} {t3:ByteArray} (h:cmpV k1 n1 t1 k2 n2 t2<=0) (k:cmpV k2 n2 t2 k3 n3 t3<=0):cmpV k1 n1 t1 k3 n3 t3<=0:=by
 rw[cmpV_le] at h k ⊢
 rcases h with h | ⟨h,h'⟩<;>rcases k with k | ⟨k,k'⟩
 ·omega
 ·omega
 ·omega
 ·right
  refine⟨by omega,?_⟩
  rcases h' with h' | ⟨h1,h2⟩<;>rcases k' with k' | ⟨k1',k2'⟩
  ·omega
  ·omega
  ·omega
  ·right;exact⟨by omega,cb_trans _ _ _ h2 k2'⟩
theorem cmpU_anti (a b:Vl):cmpU b a = -cmpU a b:=cmpV_anti _ _ _ _ _ _
theorem cmpU_self (a:Vl):cmpU a a=0:=cmpV_refl _ _ _
theorem cmpU_eq {a b:Vl} (h:cmpU a b=0):a=b:=by
 obtain⟨h1,h2,h3⟩:=cmpV_eq h
 have h4:a.t=b.t:=bytes_eq.1 h3
 cases a
 cases b
 simp_all
theorem cmpU_trans {a b c:Vl} (h:cmpU a b<0) (k:cmpU b c<0):cmpU a c<0:=by
 have h1:cmpU a c<=0:=cmpV_trans (Int.le_of_lt h) (Int.le_of_lt k)
 by_cases h2:cmpU a c=0
 ·obtain rfl:=cmpU_eq h2
  have:=cmpU_anti a b
  omega
 ·omega
theorem cmpRow_anti:∀ (a b:List Vl),cmpRow b a = -cmpRow a b
 | [],[]=>rfl
 | [],_::_=>rfl
 | _::_,[]=>rfl
 | a::l,b::m=>by
   show (if cmpU b a=0 then cmpRow m l else cmpU b a) = -(if cmpU a b=0 then cmpRow l m else cmpU a b)
   rw[cmpU_anti a b,cmpRow_anti l m]
   by_cases h:cmpU a b=0<;>simp [h]
theorem cmpRow_self:∀ (a:List Vl),cmpRow a a=0
 | []=>rfl
 | a::l=>by
   show (if cmpU a a=0 then cmpRow l l else cmpU a a)=0
   rw[if_pos (cmpU_self a),cmpRow_self l]
theorem cmpRow_eq:∀ (a b:List Vl),cmpRow a b=0->a=b
 | [],[],_=>rfl
 | [],_::_,h=>by simp [cmpRow] at h
 | _::_,[],h=>by simp [cmpRow] at h
 | a::l,b::m,h=>by
   rw[show cmpRow (a::l) (b::m)=if cmpU a b=0 then cmpRow l m else cmpU a b from rfl] at h
   by_cases h0:cmpU a b=0
   ·rw[if_pos h0] at h
    rw[cmpU_eq h0,cmpRow_eq l m h]
   ·rw[if_neg h0] at h
    exact absurd h h0
theorem cmpRow_trans:∀ (a b c:List Vl),cmpRow a b<0->cmpRow b c<0->cmpRow a c<0
 | [],[],_,h,_=>by simp [cmpRow] at h
 | [],_::_,[],_,h=>by simp [cmpRow] at h
 | [],_::_,_::_,_,_=>by simp [cmpRow]
 | _::_,[],_,h,_=>by simp [cmpRow] at h
 | _::_,_::_,[],_,h=>by simp [cmpRow] at h
 | a::l,b::m,c::n,h,k=>by
   rw[show cmpRow (a::l) (b::m)=if cmpU a b=0 then cmpRow l m else cmpU a b from rfl] at h
   rw[show cmpRow (b::m) (c::n)=if cmpU b c=0 then cmpRow m n else cmpU b c from rfl] at k
   show (if cmpU a c=0 then cmpRow l n else cmpU a c)<0
   by_cases h0:cmpU a b=0
   ·rw[if_pos h0] at h
    obtain rfl:=cmpU_eq h0
    by_cases h1:cmpU a c=0
    ·rw[if_pos h1] at k ⊢
     exact cmpRow_trans l m n h k
    ·rw[if_neg h1] at k ⊢
     exact k
   ·rw[if_neg h0] at h
    by_cases h1:cmpU b c=0
    ·obtain rfl:=cmpU_eq h1
     rw[if_neg h0]
     exact h
    ·rw[if_neg h1] at k
     have h2:=cmpU_trans h k
     rw[if_neg (by omega)]
     exact h2
end Go.Proofs.YtgopfpjinohncaaGreatDoor
