/- query.badName, badTerm, Shape's closures, walked. -/
import Derived.Test.YtgopfpjinohncaaGreatDoorRxF
set_option maxHeartbeats 16000000
set_option maxRecDepth 100000
set_option linter.unusedVariables false
namespace Go.Proofs.YtgopfpjinohncaaGreatDoor
open Go.Proofs.Tryz
open Go.RowKit
theorem ou (w:World) (s:List UInt8) (hs:s.length<=140737488355328) :
 Calls prog 215 #[.string ⟨s.toArray⟩] w fun e w'=>e=.returned (.bool (!ai s))/\w=w':=by
 have hnot:∀ (x:Bool) (w:World),(Op.unary .not (.bool x)).run prog w=.ok (.bool (!x)) w:=fun _ _=>rfl
 have HI:=Fx (fun W=>ei ⟨s.toArray⟩ W (by simpa [ByteArray.size] using hs))
 obtain⟨q,hq⟩:∃ q,q=ai s:=⟨_,rfl⟩
 rw[<-hq]
 have HQ:=Fx hq
 clear hq hs
 go_enter func215,ntmps215
 go_wp2_with fail
 refine (HI.out _).mono ?_
 rintro e w2 ⟨rfl,rfl⟩
 go_wp2_with fail
 go_ret
 exact⟨by rw[HQ.out];rfl,rfl⟩
def A3 (al:List eb):Prop:=∀ a∈al,a.rel.length<=140737488355328/\∀ t∈a.ts,t.x.length<=140737488355328
theorem sX (w:World) (nm:ByteArray) (hv av:Value) (hd:List (List UInt8)) (al:List eb) (hh:aI w hv hd) (h:aK w av al) (hn:nm.size<=140737488355328) (hl:∀ s∈hd,s.length<=140737488355328) (ha:A3 al) :
 Calls prog 166 #[.agg #[.string nm,hv,av]] w fun e w'=>e=.returned (.bool (lN ⟨nm.data.toList,hd,al⟩))/\Below w.heap.size w w':=by
 have hnot:∀ (x:Bool) (w:World),(Op.unary .not (.bool x)).run prog w=.ok (.bool (!x)) w:=fun _ _=>rfl
 have hbox:=af.new w 50 #[.string nm,hv,av]
 have hb0:Below w.heap.size w (w.alloc (.cells #[.string nm,hv,av] 50)):=ae Fy _
 have hhc:=oH 215 #[] (enters_of func215 (by kernel_rfl) rfl) (Dj hd fun s => !ai s) (w.alloc (.cells #[.string nm,hv,av] 50)) hv (hd.map bO) (hh.keep hb0) (by intro x hx;simp at hx;obtain⟨s,_,rfl⟩:=hx;rfl) (fun W k x _ hx=>by
  rw[List.getElem?_map] at hx
  cases hs:hd[k]? with
  | none=>rw[hs] at hx;simp at hx
  | some s =>
    rw[hs] at hx
    simp only[Option.map_some,Option.some.injEq] at hx
    subst hx
    rw[ev hs]
    refine (ou W s (hl s (FC hs))).mono ?_
    rintro e W' ⟨rfl,rfl⟩
    exact⟨rfl,Below.refl _ _⟩)
 rw[eW hd _ (List.length_map _)] at hhc
 have HNM:=Fx (fun W=>ei nm W hn)
 have HNA:=Fx (fun W (s:List UInt8) (hs:s.length<=140737488355328)=>ei ⟨s.toArray⟩ W (by simpa [ByteArray.size] using hs))
 obtain⟨ah,hcap,rfl,_,_⟩:=hh.form
 obtain⟨ad,cap,rfl,hnc,hcm⟩:=h.form
 unfold maxLen at hcm
 have HR:=Fx h
 have HA:=Fx ha
 have HHC:=Fx hhc
 have HB0:=Fx hb0
 have HBX:=Fx hbox
 have hres:lN ⟨nm.data.toList,hd,al⟩=((!ai nm.data.toList || hd.any fun s => !ai s) || al.any eH):=rfl
 rw[hres]
 clear h ha hhc hb0 hbox hn hl hres hh
 generalize hd.length=hn at *
 generalize (hd.any fun s => !ai s)=hq at *
 generalize ai nm.data.toList=bn at *
 obtain⟨B,hB⟩:∃ B,B=(!bn || hq):=⟨_,rfl⟩
 rw[<-hB]
 have HB:=Fx hB
 clear hB
 generalize hN:al.length=n at *
 have HN:=Fx hN
 clear hN
 go_enter func166,ntmps166
 go_wp2_with fail
 refine (HNM.out _).mono ?_
 rintro e w1 ⟨rfl,rfl⟩
 cases bn with
 | false =>
   have HBS:=HB0
   go_wp2_with fail
   go_loopw [3,20] (fun b i wr=>∃ k:Nat,k<=n/\i=.int .i64 k/\b=.bool (B || (al.take k).any eH)/\Hid (Below w.heap.size w wr)) (fun _ i _=>n - (intOf i).toNat)
   case atStart=>exact⟨0,Fz,rfl,by rw[HB.out];rfl,HBS⟩
   case round =>
    obtain⟨k,hk,rfl,rfl,HW⟩:=hrel
    obtain⟨wo,rfl⟩:∃ wo:World,wo=wr:=⟨_,rfl⟩
    by_cases hlt:k<n
    ·obtain⟨a,ha⟩:∃ a,al[k]? = some a:=⟨al[k]'(by rw[HN.out];exact hlt),FD (by rw[HN.out];exact hlt)⟩
     obtain⟨b,off,cap',tv,hv',_,_,hbl,q0,q1,hrow,hal⟩:=(HR.out.keep HW.out).get ha
     rw[HN.out] at hv'
     simp only[Value.slice.injEq,true_and] at hv'
     obtain⟨rfl,rfl⟩:=hv'
     obtain⟨ta,tc,rfl,htc,htm⟩:=hrow.form
     unfold maxLen at htm
     obtain⟨hrl,htx⟩:=HA.out a (FC ha)
     have hst:=bX eH ha
     have HST:=Fx hst
     have HTX:=Fx htx
     have HROW:=Fx hrow
     have HNR:=Fx (fun W=>HNA.out W a.rel hrl)
     rw[List.length_map] at *
     generalize hM:a.ts.length=m at *
     have HM:=Fx hM
     obtain⟨bb,hbb⟩:∃ bb,(B || (al.take k).any eH)=bb:=⟨_,rfl⟩
     rw[hbb]
     have HBB:=Fx hbb
     obtain⟨rb,hrb⟩:∃ rb,ai a.rel=rb:=⟨_,rfl⟩
     have HRB:=Fx hrb
     obtain⟨b1,hb1⟩:∃ b1,b1=(bb || !rb):=⟨_,rfl⟩
     have HB1:=Fx hb1
     have hrr:(⟨a.rel.toArray⟩:ByteArray).data.toList=a.rel:=by simp
     have hnr:=HNR.out
     rw[hrb] at hnr
     have HNR:=Fx hnr
     clear ha hst hrow hal htx hM hbb hrb hb1 hrr hnr
     cases bb with
     | true =>
       go_wp2_with fail
       go_loopw [3,34] (fun b i wr=>∃ j:Nat,j<=m/\i=.int .i64 j/\b=.bool (b1 || (a.ts.take j).any bI)/\Hid (Below wo.heap.size wo wr)) (fun _ i _=>m - (intOf i).toNat)
       case atStart=>exact⟨0,Fz,rfl,by rw[HB1.out];simp,Fx (ae Fy _)⟩
       case round =>
        obtain⟨j,hj,rfl,rfl,HX⟩:=hrel
        by_cases hjt:j<m
        ·obtain⟨t,ht⟩:∃ t,a.ts[j]? = some t:=⟨a.ts[j]'(by rw[HM.out];exact hjt),FD (by rw[HM.out];exact hjt)⟩
         obtain⟨tb,tfo,tcap,htv,_,_,htbl,hce⟩:=(HROW.out.keep HX.out).get (i:=j) (x:=t.cells) (by simp [ht])
         simp only[List.length_map,HM.out,Value.slice.injEq,true_and] at htv
         obtain⟨rfl,rfl⟩:=htv
         have u0:=hce 0 _ rfl
         have u1:=hce 1 _ rfl
         have u2:=hce 2 _ rfl
         have u3:=hce 3 _ rfl
         simp only[Nat.add_zero] at u0
         have hxl:=HTX.out t (FC ht)
         have HTS:=Fx (bX bI ht)
         obtain⟨cc,hcc⟩:∃ cc,(b1 || (a.ts.take j).any bI)=cc:=⟨_,rfl⟩
         rw[hcc]
         have HCC:=Fx hcc
         clear hce ht hcc
         cases cc with
         | true =>
           go_wp2_with fail
           go_roundw
           case rel=>exact⟨j+1,by omega,by go_num,by rw[HTS.out,<-Bool.or_assoc,HCC.out];rfl,Fx (ae HX.out _)⟩
           case measure=>simp [intOf];omega
         | false =>
           by_cases hx:t.x=[]
           ·have hbn:bI t=false:=by unfold bI;rw[hx];rfl
            have HBN:=Fx hbn
            rw[hx] at u0
            clear hbn hx
            go_wp2_with fail
            go_roundw
            case rel=>exact⟨j+1,by omega,by go_num,by rw[HTS.out,<-Bool.or_assoc,HCC.out,HBN.out];rfl,Fx (ae HX.out _)⟩
            case measure=>simp [intOf];omega
           ·have he:=fx hx
            have he2:t.x.isEmpty=false:=by
             cases hxx:t.x with
             | nil=>exact absurd hxx hx
             | cons _ _=>rfl
            have he3:(!t.x.isEmpty)=true:=by rw[he2];rfl
            have hbn:bI t = !ai t.x:=by unfold bI;rw[decide_eq_true hx];rfl
            obtain⟨xb,hxb⟩:∃ xb,ai t.x=xb:=⟨_,rfl⟩
            rw[hxb] at hbn
            have hxx:(⟨t.x.toArray⟩:ByteArray).data.toList=t.x:=by simp
            have hnx:=HNA.out
            have hnx2:=fun W=>hnx W t.x hxl
            rw[hxb] at hnx2
            have HNX:=Fx hnx2
            have HBN:=Fx hbn
            clear hx hbn hxb hxx hnx hnx2
            go_wp2_with fail
            refine (HNX.out _).mono ?_
            rintro e w4 ⟨rfl,rfl⟩
            go_wp2_with fail
            go_roundw
            case rel=>exact⟨j+1,by omega,by go_num,by rw[HTS.out,<-Bool.or_assoc,HCC.out,HBN.out];cases xb<;>rfl,Fx (ae HX.out _)⟩
            case measure=>simp [intOf];omega
        ·obtain rfl:j=m:=by omega
         go_wp2_with fail
         go_roundw
         case rel =>
          refine⟨k+1,by omega,by go_num,?_,Fx (HW.out.trans (HX.out.mono HW.out.size))⟩
          rw[List.take_of_length_le (by rw[HM.out];exact FA),HST.out,<-Bool.or_assoc,HBB.out,HB1.out]
          unfold eH
          rw[HRB.out,Bool.or_assoc]
         case measure=>simp [intOf];omega
     | false =>
       go_wp2_with fail
       refine (HNR.out _).mono ?_
       rintro e w3 ⟨rfl,rfl⟩
       go_wp2_with fail
       go_loopw [3,34] (fun b i wr=>∃ j:Nat,j<=m/\i=.int .i64 j/\b=.bool (b1 || (a.ts.take j).any bI)/\Hid (Below wo.heap.size wo wr)) (fun _ i _=>m - (intOf i).toNat)
       case atStart=>exact⟨0,Fz,rfl,by rw[HB1.out];simp,Fx (ae Fy _)⟩
       case round =>
        obtain⟨j,hj,rfl,rfl,HX⟩:=hrel
        by_cases hjt:j<m
        ·obtain⟨t,ht⟩:∃ t,a.ts[j]? = some t:=⟨a.ts[j]'(by rw[HM.out];exact hjt),FD (by rw[HM.out];exact hjt)⟩
         obtain⟨tb,tfo,tcap,htv,_,_,htbl,hce⟩:=(HROW.out.keep HX.out).get (i:=j) (x:=t.cells) (by simp [ht])
         simp only[List.length_map,HM.out,Value.slice.injEq,true_and] at htv
         obtain⟨rfl,rfl⟩:=htv
         have u0:=hce 0 _ rfl
         have u1:=hce 1 _ rfl
         have u2:=hce 2 _ rfl
         have u3:=hce 3 _ rfl
         simp only[Nat.add_zero] at u0
         have hxl:=HTX.out t (FC ht)
         have HTS:=Fx (bX bI ht)
         obtain⟨cc,hcc⟩:∃ cc,(b1 || (a.ts.take j).any bI)=cc:=⟨_,rfl⟩
         rw[hcc]
         have HCC:=Fx hcc
         clear hce ht hcc
         cases cc with
         | true =>
           go_wp2_with fail
           go_roundw
           case rel=>exact⟨j+1,by omega,by go_num,by rw[HTS.out,<-Bool.or_assoc,HCC.out];rfl,Fx (ae HX.out _)⟩
           case measure=>simp [intOf];omega
         | false =>
           by_cases hx:t.x=[]
           ·have hbn:bI t=false:=by unfold bI;rw[hx];rfl
            have HBN:=Fx hbn
            rw[hx] at u0
            clear hbn hx
            go_wp2_with fail
            go_roundw
            case rel=>exact⟨j+1,by omega,by go_num,by rw[HTS.out,<-Bool.or_assoc,HCC.out,HBN.out];rfl,Fx (ae HX.out _)⟩
            case measure=>simp [intOf];omega
           ·have he:=fx hx
            have he2:t.x.isEmpty=false:=by
             cases hxx:t.x with
             | nil=>exact absurd hxx hx
             | cons _ _=>rfl
            have he3:(!t.x.isEmpty)=true:=by rw[he2];rfl
            have hbn:bI t = !ai t.x:=by unfold bI;rw[decide_eq_true hx];rfl
            obtain⟨xb,hxb⟩:∃ xb,ai t.x=xb:=⟨_,rfl⟩
            rw[hxb] at hbn
            have hxx:(⟨t.x.toArray⟩:ByteArray).data.toList=t.x:=by simp
            have hnx:=HNA.out
            have hnx2:=fun W=>hnx W t.x hxl
            rw[hxb] at hnx2
            have HNX:=Fx hnx2
            have HBN:=Fx hbn
            clear hx hbn hxb hxx hnx hnx2
            go_wp2_with fail
            refine (HNX.out _).mono ?_
            rintro e w4 ⟨rfl,rfl⟩
            go_wp2_with fail
            go_roundw
            case rel=>exact⟨j+1,by omega,by go_num,by rw[HTS.out,<-Bool.or_assoc,HCC.out,HBN.out];cases xb<;>rfl,Fx (ae HX.out _)⟩
            case measure=>simp [intOf];omega
        ·obtain rfl:j=m:=by omega
         go_wp2_with fail
         go_roundw
         case rel =>
          refine⟨k+1,by omega,by go_num,?_,Fx (HW.out.trans (HX.out.mono HW.out.size))⟩
          rw[List.take_of_length_le (by rw[HM.out];exact FA),HST.out,<-Bool.or_assoc,HBB.out,HB1.out]
          unfold eH
          rw[HRB.out,Bool.or_assoc]
         case measure=>simp [intOf];omega
    ·obtain rfl:k=n:=by omega
     go_wp2_with fail
     go_ret
     rw[List.take_of_length_le (by rw[HN.out];exact FA)]
     exact⟨rfl,HW.out⟩
 | true =>
   go_wp2_with fail
   refine HHC.out.mono ?_
   rintro e w2 ⟨rfl,hb2⟩
   have HBS:=Fx (HB0.out.trans (hb2.mono (by simp)))
   have y2:=(HBX.out.below hb2 (by simp)).cell 2
   have yl:=(HBX.out.below hb2 (by simp)).lt
   simp only[FF] at y2
   clear hb2
   go_wp2_with fail
   go_loopw [3,20] (fun b i wr=>∃ k:Nat,k<=n/\i=.int .i64 k/\b=.bool (B || (al.take k).any eH)/\Hid (Below w.heap.size w wr)) (fun _ i _=>n - (intOf i).toNat)
   case atStart=>exact⟨0,Fz,rfl,by rw[HB.out];simp,HBS⟩
   case round =>
    obtain⟨k,hk,rfl,rfl,HW⟩:=hrel
    obtain⟨wo,rfl⟩:∃ wo:World,wo=wr:=⟨_,rfl⟩
    by_cases hlt:k<n
    ·obtain⟨a,ha⟩:∃ a,al[k]? = some a:=⟨al[k]'(by rw[HN.out];exact hlt),FD (by rw[HN.out];exact hlt)⟩
     obtain⟨b,off,cap',tv,hv',_,_,hbl,q0,q1,hrow,hal⟩:=(HR.out.keep HW.out).get ha
     rw[HN.out] at hv'
     simp only[Value.slice.injEq,true_and] at hv'
     obtain⟨rfl,rfl⟩:=hv'
     obtain⟨ta,tc,rfl,htc,htm⟩:=hrow.form
     unfold maxLen at htm
     obtain⟨hrl,htx⟩:=HA.out a (FC ha)
     have hst:=bX eH ha
     have HST:=Fx hst
     have HTX:=Fx htx
     have HROW:=Fx hrow
     have HNR:=Fx (fun W=>HNA.out W a.rel hrl)
     rw[List.length_map] at *
     generalize hM:a.ts.length=m at *
     have HM:=Fx hM
     obtain⟨bb,hbb⟩:∃ bb,(B || (al.take k).any eH)=bb:=⟨_,rfl⟩
     rw[hbb]
     have HBB:=Fx hbb
     obtain⟨rb,hrb⟩:∃ rb,ai a.rel=rb:=⟨_,rfl⟩
     have HRB:=Fx hrb
     obtain⟨b1,hb1⟩:∃ b1,b1=(bb || !rb):=⟨_,rfl⟩
     have HB1:=Fx hb1
     have hrr:(⟨a.rel.toArray⟩:ByteArray).data.toList=a.rel:=by simp
     have hnr:=HNR.out
     rw[hrb] at hnr
     have HNR:=Fx hnr
     clear ha hst hrow hal htx hM hbb hrb hb1 hrr hnr
     cases bb with
     | true =>
       go_wp2_with fail
       go_loopw [3,34] (fun b i wr=>∃ j:Nat,j<=m/\i=.int .i64 j/\b=.bool (b1 || (a.ts.take j).any bI)/\Hid (Below wo.heap.size wo wr)) (fun _ i _=>m - (intOf i).toNat)
       case atStart=>exact⟨0,Fz,rfl,by rw[HB1.out];simp,Fx (ae Fy _)⟩
       case round =>
        obtain⟨j,hj,rfl,rfl,HX⟩:=hrel
        by_cases hjt:j<m
        ·obtain⟨t,ht⟩:∃ t,a.ts[j]? = some t:=⟨a.ts[j]'(by rw[HM.out];exact hjt),FD (by rw[HM.out];exact hjt)⟩
         obtain⟨tb,tfo,tcap,htv,_,_,htbl,hce⟩:=(HROW.out.keep HX.out).get (i:=j) (x:=t.cells) (by simp [ht])
         simp only[List.length_map,HM.out,Value.slice.injEq,true_and] at htv
         obtain⟨rfl,rfl⟩:=htv
         have u0:=hce 0 _ rfl
         have u1:=hce 1 _ rfl
         have u2:=hce 2 _ rfl
         have u3:=hce 3 _ rfl
         simp only[Nat.add_zero] at u0
         have hxl:=HTX.out t (FC ht)
         have HTS:=Fx (bX bI ht)
         obtain⟨cc,hcc⟩:∃ cc,(b1 || (a.ts.take j).any bI)=cc:=⟨_,rfl⟩
         rw[hcc]
         have HCC:=Fx hcc
         clear hce ht hcc
         cases cc with
         | true =>
           go_wp2_with fail
           go_roundw
           case rel=>exact⟨j+1,by omega,by go_num,by rw[HTS.out,<-Bool.or_assoc,HCC.out];rfl,Fx (ae HX.out _)⟩
           case measure=>simp [intOf];omega
         | false =>
           by_cases hx:t.x=[]
           ·have hbn:bI t=false:=by unfold bI;rw[hx];rfl
            have HBN:=Fx hbn
            rw[hx] at u0
            clear hbn hx
            go_wp2_with fail
            go_roundw
            case rel=>exact⟨j+1,by omega,by go_num,by rw[HTS.out,<-Bool.or_assoc,HCC.out,HBN.out];rfl,Fx (ae HX.out _)⟩
            case measure=>simp [intOf];omega
           ·have he:=fx hx
            have he2:t.x.isEmpty=false:=by
             cases hxx:t.x with
             | nil=>exact absurd hxx hx
             | cons _ _=>rfl
            have he3:(!t.x.isEmpty)=true:=by rw[he2];rfl
            have hbn:bI t = !ai t.x:=by unfold bI;rw[decide_eq_true hx];rfl
            obtain⟨xb,hxb⟩:∃ xb,ai t.x=xb:=⟨_,rfl⟩
            rw[hxb] at hbn
            have hxx:(⟨t.x.toArray⟩:ByteArray).data.toList=t.x:=by simp
            have hnx:=HNA.out
            have hnx2:=fun W=>hnx W t.x hxl
            rw[hxb] at hnx2
            have HNX:=Fx hnx2
            have HBN:=Fx hbn
            clear hx hbn hxb hxx hnx hnx2
            go_wp2_with fail
            refine (HNX.out _).mono ?_
            rintro e w4 ⟨rfl,rfl⟩
            go_wp2_with fail
            go_roundw
            case rel=>exact⟨j+1,by omega,by go_num,by rw[HTS.out,<-Bool.or_assoc,HCC.out,HBN.out];cases xb<;>rfl,Fx (ae HX.out _)⟩
            case measure=>simp [intOf];omega
        ·obtain rfl:j=m:=by omega
         go_wp2_with fail
         go_roundw
         case rel =>
          refine⟨k+1,by omega,by go_num,?_,Fx (HW.out.trans (HX.out.mono HW.out.size))⟩
          rw[List.take_of_length_le (by rw[HM.out];exact FA),HST.out,<-Bool.or_assoc,HBB.out,HB1.out]
          unfold eH
          rw[HRB.out,Bool.or_assoc]
         case measure=>simp [intOf];omega
     | false =>
       go_wp2_with fail
       refine (HNR.out _).mono ?_
       rintro e w3 ⟨rfl,rfl⟩
       go_wp2_with fail
       go_loopw [3,34] (fun b i wr=>∃ j:Nat,j<=m/\i=.int .i64 j/\b=.bool (b1 || (a.ts.take j).any bI)/\Hid (Below wo.heap.size wo wr)) (fun _ i _=>m - (intOf i).toNat)
       case atStart=>exact⟨0,Fz,rfl,by rw[HB1.out];simp,Fx (ae Fy _)⟩
       case round =>
        obtain⟨j,hj,rfl,rfl,HX⟩:=hrel
        by_cases hjt:j<m
        ·obtain⟨t,ht⟩:∃ t,a.ts[j]? = some t:=⟨a.ts[j]'(by rw[HM.out];exact hjt),FD (by rw[HM.out];exact hjt)⟩
         obtain⟨tb,tfo,tcap,htv,_,_,htbl,hce⟩:=(HROW.out.keep HX.out).get (i:=j) (x:=t.cells) (by simp [ht])
         simp only[List.length_map,HM.out,Value.slice.injEq,true_and] at htv
         obtain⟨rfl,rfl⟩:=htv
         have u0:=hce 0 _ rfl
         have u1:=hce 1 _ rfl
         have u2:=hce 2 _ rfl
         have u3:=hce 3 _ rfl
         simp only[Nat.add_zero] at u0
         have hxl:=HTX.out t (FC ht)
         have HTS:=Fx (bX bI ht)
         obtain⟨cc,hcc⟩:∃ cc,(b1 || (a.ts.take j).any bI)=cc:=⟨_,rfl⟩
         rw[hcc]
         have HCC:=Fx hcc
         clear hce ht hcc
         cases cc with
         | true =>
           go_wp2_with fail
           go_roundw
           case rel=>exact⟨j+1,by omega,by go_num,by rw[HTS.out,<-Bool.or_assoc,HCC.out];rfl,Fx (ae HX.out _)⟩
           case measure=>simp [intOf];omega
         | false =>
           by_cases hx:t.x=[]
           ·have hbn:bI t=false:=by unfold bI;rw[hx];rfl
            have HBN:=Fx hbn
            rw[hx] at u0
            clear hbn hx
            go_wp2_with fail
            go_roundw
            case rel=>exact⟨j+1,by omega,by go_num,by rw[HTS.out,<-Bool.or_assoc,HCC.out,HBN.out];rfl,Fx (ae HX.out _)⟩
            case measure=>simp [intOf];omega
           ·have he:=fx hx
            have he2:t.x.isEmpty=false:=by
             cases hxx:t.x with
             | nil=>exact absurd hxx hx
             | cons _ _=>rfl
            have he3:(!t.x.isEmpty)=true:=by rw[he2];rfl
            have hbn:bI t = !ai t.x:=by unfold bI;rw[decide_eq_true hx];rfl
            obtain⟨xb,hxb⟩:∃ xb,ai t.x=xb:=⟨_,rfl⟩
            rw[hxb] at hbn
            have hxx:(⟨t.x.toArray⟩:ByteArray).data.toList=t.x:=by simp
            have hnx:=HNA.out
            have hnx2:=fun W=>hnx W t.x hxl
            rw[hxb] at hnx2
            have HNX:=Fx hnx2
            have HBN:=Fx hbn
            clear hx hbn hxb hxx hnx hnx2
            go_wp2_with fail
            refine (HNX.out _).mono ?_
            rintro e w4 ⟨rfl,rfl⟩
            go_wp2_with fail
            go_roundw
            case rel=>exact⟨j+1,by omega,by go_num,by rw[HTS.out,<-Bool.or_assoc,HCC.out,HBN.out];cases xb<;>rfl,Fx (ae HX.out _)⟩
            case measure=>simp [intOf];omega
        ·obtain rfl:j=m:=by omega
         go_wp2_with fail
         go_roundw
         case rel =>
          refine⟨k+1,by omega,by go_num,?_,Fx (HW.out.trans (HX.out.mono HW.out.size))⟩
          rw[List.take_of_length_le (by rw[HM.out];exact FA),HST.out,<-Bool.or_assoc,HBB.out,HB1.out]
          unfold eH
          rw[HRB.out,Bool.or_assoc]
         case measure=>simp [intOf];omega
    ·obtain rfl:k=n:=by omega
     go_wp2_with fail
     go_ret
     rw[List.take_of_length_le (by rw[HN.out];exact FA)]
     exact⟨rfl,HW.out⟩
theorem Tryz.badTermEq (k n:Int) (t:List UInt8) (w:World):(binOp .neq 111 (.agg #[.int .i64 k,.int .i64 n,.string ⟨t.toArray⟩]) (.agg #[.int .i64 0,.int .i64 0,.string ⟨#[]⟩])).run prog w=.ok (.bool (decide ((⟨k,n,t⟩:Vl)≠⟨0,0,[]⟩))) w:=by
 have:=xy ⟨k,n,t⟩ ⟨0,0,[]⟩ w
 rw[decide_not]
 exact this
theorem sY (w:World) (t:dd) :
 Calls prog 169 #[.agg t.cells.toArray] w fun e w'=>e=.returned (.bool (eI t))/\Below w.heap.size w w':=by
 have hnot:∀ (x:Bool) (w:World),(Op.unary .not (.bool x)).run prog w=.ok (.bool (!x)) w:=fun _ _=>rfl
 have hneq:=Tryz.badTermEq
 have hb0:Below w.heap.size w (w.alloc (.cells t.cells.toArray 113)):=ae Fy _
 have hb1:=fun c:Array Value=>ae hb0 (.cells c 111)
 obtain⟨x,k,n,s⟩:=t
 unfold eI dd.cells
 by_cases hx:x=[]
 ·subst hx
  rw[if_pos rfl]
  have hv:=fun W=>eV k n ⟨s.toArray⟩ W
  have hss:(⟨s.toArray⟩:ByteArray).data.toList=s:=by simp
  rw[hss] at hv
  show Calls _ _ _ _ fun e w'=>e=.returned (.bool (!ax k n s))/\_
  generalize ax k n s=vb at *
  have HV:=Fx hv
  have HB1:=Fx hb1
  clear hv hss hb0 hb1
  go_enter func169,ntmps169
  go_wp2_with fail
  refine (HV.out _).mono ?_
  rintro e w1 ⟨rfl,rfl⟩
  go_wp2_with fail
  go_ret
  exact⟨rfl,HB1.out _⟩
 ·rw[if_neg hx]
  have he:=fx hx
  have he2:x.isEmpty=false:=by
   cases hxx:x with
   | nil=>exact absurd hxx hx
   | cons _ _=>rfl
  have he3:(!x.isEmpty)=true:=by rw[he2];rfl
  have HB0:=Fx hb0
  show Calls _ _ _ _ fun e w'=>e=.returned (.bool (decide ((⟨k,n,s⟩:Vl)≠⟨0,0,[]⟩)))/\_
  clear hb0 hb1 hx
  go_enter func169,ntmps169
  go_wp2_with fail
  go_ret
  exact⟨by simp,HB0.out⟩
theorem qz (w:World) (a:eb) (tv:Value) (h:aj w tv 4 (a.ts.map dd.cells)) :
 Calls prog 167 #[.agg #[.string ⟨a.rel.toArray⟩,tv]] w fun e w'=>e=.returned (.bool (a.ts.any eI))/\Below w.heap.size w w':=by
 have hb0:Below w.heap.size w (w.alloc (.cells #[.string ⟨a.rel.toArray⟩,tv] 105)):=ae Fy _
 have hc:=oR 169 #[] (enters_of func169 (by kernel_rfl) rfl) (Dj a.ts eI) (w.alloc (.cells #[.string ⟨a.rel.toArray⟩,tv] 105)) tv (a.ts.map dd.cells) (h.keep hb0) (ri _) (fun W k x _ hx=>by
  rw[List.getElem?_map] at hx
  cases hs:a.ts[k]? with
  | none=>rw[hs] at hx;simp at hx
  | some s =>
    rw[hs] at hx
    simp only[Option.map_some,Option.some.injEq] at hx
    subst hx
    rw[ev hs]
    exact sY W s)
 rw[eW a.ts _ (List.length_map _)] at hc
 obtain⟨ta,tc,rfl,_,_⟩:=h.form
 have HC:=Fx hc
 have HB0:=Fx hb0
 clear h hc hb0
 generalize (a.ts.map dd.cells).length=m at *
 generalize a.ts.any eI=R at *
 go_enter func167,ntmps167
 go_wp2_with fail
 refine HC.out.mono ?_
 rintro e w2 ⟨rfl,hb⟩
 have HB:=Fx (HB0.out.trans (hb.mono (by simp)))
 clear hb
 go_wp2_with fail
 go_ret
 exact⟨rfl,HB.out⟩
theorem AK (w:World) (a:eb) (tv:Value) (h:aj w tv 4 (a.ts.map dd.cells)) :
 Calls prog 170 #[.agg #[.string ⟨a.rel.toArray⟩,tv]] w fun e w'=>e=.returned (.bool (gX a))/\Below w.heap.size w w':=by
 obtain⟨ta,tc,rfl,_,_⟩:=h.form
 unfold gX
 clear h
 simp only[List.length_map]
 generalize a.ts.length=n
 have HB0:=Fx (show Below w.heap.size w (w.alloc (.cells #[.string ⟨a.rel.toArray⟩,.slice ta n tc] 105)) from ae Fy _)
 go_enter func170,ntmps170
 go_wp2_with fail
 go_ret
 exact⟨by simp;omega,HB0.out⟩
theorem j8 (g:Nat) (eg:∀ args w,(callFunc g args).run prog w=.ok (.enter g args) w) (p:eb->Bool) (w:World) (b:Nat) (nm hv av:Value) (al:List eb) (hb:af w b 50 #[nm,hv,av]) (h:aK w av al)
 (hf:∀ (W:World) (a:eb) (tv:Value),aj W tv 4 (a.ts.map dd.cells)->Calls prog g #[.agg #[.string ⟨a.rel.toArray⟩,tv]] W fun e W'=>e=.returned (.bool (p a))/\Below W.heap.size W W') :
 Calls prog 164 #[.func (.func g) #[] #[],.pointer (some ⟨b,0,none⟩)] w fun e w'=>e=.returned (.bool (al.any p))/\Below w.heap.size w w':=by
 obtain⟨rows,h1,h2⟩:=h
 have hc:=oU g #[] eg (Dj al p) w av rows h1 (fun x hx=>by
  obtain⟨a,_,tv,rfl,_⟩:=bm h2 x hx
  rfl) (fun W k x hW hx=>by
  obtain⟨a,ha,tv,rfl,h3,h4⟩:∃ a,al[k]? = some a/\tZ w x a:=by
   have hk:k<al.length:=by rw[<-h2.length];exact (FE hx).1
   obtain⟨row,hr,hc⟩:=h2.get (FD hk)
   rw[hx] at hr
   obtain rfl:=Option.some.inj hr
   exact⟨_,FD hk,hc⟩
  rw[ev ha]
  exact hf W a tv (h3.keep hW))
 rw[eW al _ h2.length] at hc
 have x2:=hb.cell 2
 have xl:=hb.lt
 simp only[FF] at x2
 obtain⟨ad,cap,rfl,_,_⟩:=h1.form
 have HC:=Fx hc
 clear hc hb h1 h2 hf
 generalize al.any p=RES at *
 go_enter func164,ntmps164
 go_wp2_with fail
 refine HC.out.mono ?_
 rintro e w2 ⟨rfl,hb2⟩
 have HB2:=Fx hb2
 clear hb2
 go_wp2_with fail
 go_ret
 exact⟨rfl,HB2.out⟩
theorem BJ {al:List eb} (h:al.any gX=false):∀ a∈al,a.ts.length<=5:=fun a ha=>by
 have:=List.any_eq_false.1 h a ha
 unfold gX at this
 simpa using this
theorem pM (w:World) (nm:ByteArray) (hv av:Value) (hd:List (List UInt8)) (al:List eb) (hh:aI w hv hd) (h:aK w av al) (hn:nm.size<=140737488355328) (hl:∀ s∈hd,s.length<=140737488355328) (ha:A3 al) :
 Calls prog 85 #[.agg #[.string nm,hv,av]] w fun e w'=>e=.returned (.int .i64 (fQ ⟨nm.data.toList,hd,al⟩))/\Below w.heap.size w w':=by
 have hmf:∀ (fn:Fn) (first cap:Array Value) (w:World),(Instr.makeFunc fn first cap).run prog w=.ok (.func fn first cap) w:=fun _ _ _ _=>rfl
 have hnot:∀ (x:Bool) (w:World),(Op.unary .not (.bool x)).run prog w=.ok (.bool (!x)) w:=fun _ _=>rfl
 obtain⟨w0,hw0⟩:∃ w0,w.alloc (.cells #[.string nm,hv,av] 50)=w0:=⟨_,rfl⟩
 have hbox:=af.new w 50 #[.string nm,hv,av]
 have hb0:Below w.heap.size w (w.alloc (.cells #[.string nm,hv,av] 50)):=ae Fy _
 have hwl:w.heap.size<w0.heap.size:=by rw[<-hw0];simp
 rw[hw0] at hbox hb0
 have HN:=Fx (fun (W:World) (hW:Below w0.heap.size w0 W)=>sX W nm hv av hd al (hh.keep (hb0.trans (hW.mono hb0.size))) (h.keep (hb0.trans (hW.mono hb0.size))) hn hl ha)
 have HT:=Fx (fun (W:World) (hW:Below w0.heap.size w0 W)=>j8 167 (enters_of func167 (by kernel_rfl) rfl) (fun a=>a.ts.any eI) W w.heap.size _ _ _ al (hbox.below hW hwl) (h.keep (hb0.trans (hW.mono hb0.size))) (fun W a tv hr=>qz W a tv hr))
 have HV:=Fx (fun (W:World) (hW:Below w0.heap.size w0 W)=>j8 170 (enters_of func170 (by kernel_rfl) rfl) gX W w.heap.size _ _ _ al (hbox.below hW hwl) (h.keep (hb0.trans (hW.mono hb0.size))) (fun W a tv hr=>AK W a tv hr))
 have HD:=Fx (fun (W:World) (hW:Below w0.heap.size w0 W)=>lR W hv hd (hh.keep (hb0.trans (hW.mono hb0.size))))
 have HU:=Fx (fun (W:World) (hW:Below w0.heap.size w0 W) (h1:al.length<=6) (h2:al.any gX=false)=>jq W nm hv av hd al (hh.keep (hb0.trans (hW.mono hb0.size))) (h.keep (hb0.trans (hW.mono hb0.size))) (by omega) (by have:=lD al (BJ h2);omega))
 have HX:=Fx (fun (W:World) (hW:Below w0.heap.size w0 W)=>hbox.below hW hwl)
 obtain⟨ad,cap,rfl,_,_⟩:=h.form
 obtain⟨hda,hdc,rfl,_,_⟩:=hh.form
 obtain⟨Q,hQ⟩:∃ Q,Q=fQ ⟨nm.data.toList,hd,al⟩:=⟨_,rfl⟩
 rw[<-hQ]
 unfold fQ at hQ
 simp only at hQ
 have HW0:=Fx hw0
 have HB0:=Fx hb0
 have x0:=hbox.cell 0
 have x1:=hbox.cell 1
 have x2:=hbox.cell 2
 simp only[FF] at x0 x1 x2
 clear h hh hn hl ha hbox hb0 hw0
 generalize lN ⟨nm.data.toList,hd,al⟩=b1 at *
 generalize (al.any fun a=>a.ts.any eI)=b2 at *
 generalize al.any gX=b3 at *
 generalize fA hd=d1 at *
 generalize cj (cg al) hd=d2 at *
 generalize al.length=n at *
 generalize hd.length=hn at *
 have HQ:=Fx hQ
 clear hQ
 go_enter func85,ntmps85
 go_wp2_with fail
 rw[HW0.out]
 refine (HN.out _ Fy).mono ?_
 rintro e w1 ⟨rfl,hb1⟩
 have H1:=Fx hb1
 have BB:=Fx (HB0.out.trans (hb1.mono HB0.out.size))
 have hq:=HQ.out
 cases b1 with
 | true =>
   rw[if_pos rfl] at hq
   have HQ:=Fx hq
   clear hq hb1
   go_wp2_with fail
   go_ret
   exact⟨by rw[HQ.out];rfl,BB.out⟩
 | false =>
 rw[if_neg (by decide)] at hq
 have HQ:=Fx hq
 clear hq hb1
 go_wp2_with fail
 refine (HT.out _ H1.out).mono ?_
 rintro e w2 ⟨rfl,hb2⟩
 have H2:=Fx (H1.out.trans (hb2.mono H1.out.size))
 have BB:=Fx (HB0.out.trans (H2.out.mono HB0.out.size))
 have hx:=HX.out _ H2.out
 have x0:=hx.cell 0
 have x1:=hx.cell 1
 have x2:=hx.cell 2
 have xl:=hx.lt
 simp only[FF] at x0 x1 x2
 have hq:=HQ.out
 cases b2 with
 | true =>
   rw[if_pos rfl] at hq
   have HQ:=Fx hq
   clear hq hb2 hx
   go_wp2_with fail
   go_ret
   exact⟨by rw[HQ.out];rfl,BB.out⟩
 | false =>
 rw[if_neg (by decide)] at hq
 have HQ:=Fx hq
 clear hq hb2 hx
 by_cases hz:n=0
 ·have hq:=HQ.out
  rw[if_pos (.inl hz)] at hq
  have HQ:=Fx hq
  clear hq
  subst hz
  go_wp2_with fail
  go_ret
  exact⟨by rw[HQ.out];rfl,BB.out⟩
 by_cases h6:6<n
 ·have hq:=HQ.out
  rw[if_pos (.inr h6)] at hq
  have HQ:=Fx hq
  have hd:(6:Int)<(n:Int):=by omega
  have hz2:¬ ((n:Int)=0):=by omega
  clear hq
  go_wp2_with fail
  go_ret
  exact⟨by rw[HQ.out];rfl,BB.out⟩
 have hq:=HQ.out
 rw[if_neg (by omega)] at hq
 have HQ:=Fx hq
 have hd1:¬ ((6:Int)<(n:Int)):=by omega
 have hd2:(n:Int)<=6:=by omega
 have hz2:¬ ((n:Int)=0):=by omega
 have hz3:((n:Int) == 0)=false:=by simp;omega
 have hd3:¬ 6<n:=h6
 clear hq
 go_wp2_with fail
 refine (HV.out _ H2.out).mono ?_
 rintro e w3 ⟨rfl,hb3⟩
 have H3:=Fx (H2.out.trans (hb3.mono H2.out.size))
 have BB:=Fx (HB0.out.trans (H3.out.mono HB0.out.size))
 have hx:=HX.out _ H3.out
 have x0:=hx.cell 0
 have x1:=hx.cell 1
 have x2:=hx.cell 2
 have xl:=hx.lt
 simp only[FF] at x0 x1 x2
 have hq:=HQ.out
 cases b3 with
 | true =>
   rw[if_pos rfl] at hq
   have HQ:=Fx hq
   clear hq hb3 hx
   go_wp2_with fail
   go_ret
   exact⟨by rw[HQ.out];rfl,BB.out⟩
 | false =>
 rw[if_neg (by decide)] at hq
 have HQ:=Fx hq
 clear hq hb3 hx
 go_wp2_with fail
 refine (HD.out _ H3.out).mono ?_
 rintro e w4 ⟨rfl,rfl⟩
 by_cases hd0:0<=d1
 ·have hq:=HQ.out
  rw[if_pos hd0] at hq
  have HQ:=Fx hq
  clear hq
  go_wp2_with fail
  go_ret
  exact⟨by rw[HQ.out];rfl,BB.out⟩
 have hq:=HQ.out
 rw[if_neg hd0] at hq
 have HQ:=Fx hq
 clear hq
 go_wp2_with fail
 refine (HU.out _ H3.out (by omega) (by trivial)).mono ?_
 rintro e w5 ⟨rfl,hb5⟩
 have H5:=Fx (H3.out.trans (hb5.mono H3.out.size))
 have BB:=Fx (HB0.out.trans (H5.out.mono HB0.out.size))
 clear hb5
 by_cases hu0:0<=d2
 ·have hq:=HQ.out
  rw[if_pos hu0] at hq
  have HQ:=Fx hq
  clear hq
  go_wp2_with fail
  go_ret
  exact⟨by rw[HQ.out];rfl,BB.out⟩
 have hq:=HQ.out
 rw[if_neg hu0] at hq
 have HQ:=Fx hq
 clear hq
 go_wp2_with fail
 go_ret
 exact⟨by rw[HQ.out];rfl,BB.out⟩
theorem uH (w:World) (nm:ByteArray) (hv av:Value) (hd:List (List UInt8)) (al:List eb) (hh:aI w hv hd) (h:aK w av al) (hk:ed ⟨nm.data.toList,hd,al⟩) (hr:fq ⟨nm.data.toList,hd,al⟩) (hg:bY w) :
 Calls prog 69 #[.agg #[.string nm,hv,av]] w fun e w'=>e=.returned (.string ⟨(qT ⟨nm.data.toList,hd,al⟩).toArray⟩)/\Below w.heap.size w w':=by
 obtain⟨i0,hi0,hz0,hz1,hz2⟩:=info_parts Tryz.infoTx9
 have hb0:Below w.heap.size w (w.alloc (.cells #[.string nm,hv,av] 50)):=ae Fy _
 have hbx:=af.new w 50 #[.string nm,hv,av]
 have hnl:=(bg hk.name).2
 have hnz:nm.size<=16:=hnl
 have hch:=pM _ nm hv av hd al (hh.keep hb0) (h.keep hb0) (by omega) (fun s hs=>by have:=(bg (hk.head s hs)).2;omega) (fun a ha=>⟨by have:=(bg (hk.rel a ha)).2;omega,fun t ht=>by
  by_cases hx:t.x=[]
  ·rw[hx];simp
  ·have:=(bg (hk.var a ha t ht hx).1).2;omega⟩)
 rw[vL hk] at hch
 have hql:=qJ hk hr
 have hrl:∀ a∈al,a.rel.length<=16/\a.ts.length<=5/\(Lib.join (a.ts.map kN) [44,32]).length<=1300:=fun a ha=>⟨(bg (hk.rel a ha)).2,hk.thin a ha,(wF hk hr a ha).1⟩
 have hvl:∀ a∈al,∀ t∈a.ts,-9223372036854775808<=t.n/\t.n<=9223372036854775807:=hr
 have hfew:al.length<=6:=hk.few
 simp only[List.map_id] at hql
 obtain⟨_,_,hj1,hj2⟩:=hql
 have hres:qT ⟨nm.data.toList,hd,al⟩=nm.data.toList++40::(Lib.join hd [44,32]++41::32::58::45::32::Lib.join (al.map lA) [44,32]):=by
  unfold qT
  simp only[List.map_id]
 rw[hres]
 have HH:=Fx hh
 have HR:=Fx h
 have HG:=Fx hg
 have HJ1:=Fx hj1
 have HJ2:=Fx hj2
 have HRL:=Fx hrl
 have HVL:=Fx hvl
 have HC:=Fx hch
 have HB0:=Fx hb0
 have HBX:=Fx hbx
 obtain⟨hda,hdc,rfl,hhc,hhm⟩:=hh.form
 obtain⟨ad,cap,rfl,hnc,hcm⟩:=h.form
 unfold maxLen at hcm
 have hr0:=iT lA al
 have HRL0:=Fx (ks lA al)
 have HRS:=Fx (fun k a=>kj lA (cs:=al) (k:=k) (c:=a))
 have HRA:=Fx (kA lA al)
 clear h hh hg hj1 hj2 hrl hvl hch hb0 hbx hres hk hr hnl
 generalize hHN:hd.length=hn at *
 have HHN:=Fx hHN
 generalize hN:al.length=n at *
 have HN:=Fx hN
 have HR0:=Fx hr0
 clear hN hHN hr0
 go_enter func69,ntmps69
 go_wp2_with fail
 refine HC.out.mono ?_
 rintro e w2 ⟨rfl,hb2⟩
 have HB2:=Fx (HB0.out.trans (hb2.mono (by simp)))
 have HBX2:=Fx (HBX.out.below hb2 (by simp))
 have x2:=HBX2.out.cell 2
 simp only[FF] at x2
 have hxl:=HBX2.out.lt
 clear hb2 HC
 go_wp2_with (at_make;refine wpList_make_full _ rfl _ _ 28 rfl w.heap.size 9 i0 (.string ⟨#[]⟩) 1 underlying28 hi0 hz0 hz1 _ _ _ _ n rfl rfl rfl rfl ?b2 ?b3 ?b4 ?_)
 case b2=>rw[hz2];omega
 case b3=>unfold maxLen;omega
 case b4=>exact HB2.out.size
 intro w5 hown5 hgrow5
 rw[HR0.out] at hown5
 have HO5:=Fx hown5
 have hb5:Below w2.heap.size w2 w5:=Below.grown Fy hgrow5 FA (fun q hq=>by cases hq)
 have HB5:=Fx hb5
 have HBX5:=Fx (HBX2.out.below hb5 HBX2.out.lt)
 have x2:=HBX5.out.cell 2
 simp only[FF] at x2
 have hxl:=HBX5.out.lt
 have hw2:=HB2.out.size
 have HW2:=Fx hw2
 generalize hgz:w2.heap.size=g at *
 have HGZ:=Fx hgz
 clear hown5 hgrow5 hgz hb5
 go_wp2_with fail
 go_loopw [19] (fun i wr=>∃ k:Nat,k<=n/\i=.int .i64 k/\Hid (wr.ownsRow w.heap.size 9 1 (.slice (some ⟨g,0,none⟩) n n) n ((ll lA al k).map bO).flatten)/\Hid (Below g w2 wr)) (fun i _=>n - (intOf i).toNat)
 case atStart=>exact⟨0,Fz,rfl,HO5,HB5⟩
 case round =>
  obtain⟨k,hk,rfl,OW,BG⟩:=hrel
  obtain⟨wo,rfl⟩:∃ wo:World,wo=wr:=⟨_,rfl⟩
  have hbw:Below w.heap.size w wo:=HB2.out.trans (BG.out.mono HW2.out)
  have BW:=Fx hbw
  clear hbw
  by_cases hkn:k<n
  ·obtain⟨a,ha⟩:∃ a,al[k]? = some a:=⟨al[k]'(by rw[HN.out];exact hkn),FD (by rw[HN.out];exact hkn)⟩
   obtain⟨tb,tfo,tcap,tv,htv,_,_,htbl,t0,t1,hrow,hal⟩:=(aK.keep HR.out BW.out).get ha
   simp only[HN.out,Value.slice.injEq,true_and] at htv
   obtain⟨rfl,rfl⟩:=htv
   obtain⟨ta,tc,rfl,htc,htm⟩:=hrow.form
   unfold maxLen at htm
   obtain⟨hrl,hml,hjl⟩:=HRL.out a (FC ha)
   have HVA:=Fx (HVL.out a (FC ha))
   have hset:=HRS.out k a ha
   have HSET:=Fx hset
   have HJL:=Fx hjl
   have hr1:=iT kN a.ts
   have HRL1:=Fx (ks kN a.ts)
   have HRS1:=Fx (fun k t=>kj kN (cs:=a.ts) (k:=k) (c:=t))
   have HRA1:=Fx (kA kN a.ts)
   rw[List.length_map] at *
   generalize hM:a.ts.length=m at *
   have HM:=Fx hM
   have HR1:=Fx hr1
   have HROW:=Fx hrow
   have hab:=af.new wo 105 #[.string ⟨a.rel.toArray⟩,.slice ta m tc]
   have HAB:=Fx hab
   clear hM hr1 hrow hal ha hset hjl hab
   go_wp2_with (at_make;refine wpList_make_full _ rfl _ _ 28 rfl wo.heap.size 9 i0 (.string ⟨#[]⟩) 1 underlying28 hi0 hz0 hz1 _ _ _ _ m rfl rfl rfl rfl ?d2 ?d3 ?d4 ?_)
   case d2=>rw[hz2];omega
   case d3=>unfold maxLen;omega
   case d4=>simp
   intro w6 hown6 hgrow6
   rw[HR1.out] at hown6
   have hs1:(wo.alloc (.cells #[.string ⟨a.rel.toArray⟩,.slice ta m tc] 105)).heap.size=wo.heap.size+1:=by simp
   have hb6:Below (wo.alloc (.cells #[.string ⟨a.rel.toArray⟩,.slice ta m tc] 105)).heap.size (wo.alloc (.cells #[.string ⟨a.rel.toArray⟩,.slice ta m tc] 105)) w6:=Below.grown Fy hgrow6 FA (fun q hq=>by cases hq)
   have hb1:Below wo.heap.size wo (wo.alloc (.cells #[.string ⟨a.rel.toArray⟩,.slice ta m tc] 105)):=ae Fy _
   obtain⟨W1,hW1⟩:∃ W1,(wo.alloc (.cells #[.string ⟨a.rel.toArray⟩,.slice ta m tc] 105))=W1:=⟨_,rfl⟩
   rw[hW1] at hs1 hb6 hb1
   have hab:=HAB.out
   rw[hW1] at hab
   rw[hs1] at hb6
   have hg2:wo.heap.size<wo.heap.size+1:=Nat.lt_succ_self _
   have hgg:g<wo.heap.size:=(OW.out.lt g rfl).2
   generalize hge:wo.heap.size+1=g2 at *
   have HZ1:=Fx hs1
   have HO6:=Fx hown6
   have HB6:=Fx hb6
   have HB1:=Fx hb1
   have HAB1:=Fx hab
   have hab6:=hab.below hb6 hg2
   have a0:=hab6.cell 0
   have a1:=hab6.cell 1
   have abl:=hab6.lt
   simp only[FF] at a0 a1
   clear hown6 hgrow6 hs1 hb6 hb1 hW1 hab hge hab6
   go_wp2_with fail
   go_loopw [31] (fun i wr=>∃ j:Nat,j<=m/\i=.int .i64 j/\Hid (wr.ownsRow wo.heap.size 9 1 (.slice (some ⟨g2,0,none⟩) m m) m ((ll kN a.ts j).map bO).flatten)/\Hid (Below g2 W1 wr)) (fun i _=>m - (intOf i).toNat)
   case atStart=>exact⟨0,Fz,rfl,HO6,HB6⟩
   case round =>
    obtain⟨j,hj,rfl,OI,BI⟩:=hrel
    obtain⟨wi,rfl⟩:∃ wi:World,wi=wr:=⟨_,rfl⟩
    have hbi:Below wo.heap.size wo wi:=HB1.out.trans (BI.out.mono (by omega))
    have HBI:=Fx hbi
    by_cases hjt:j<m
    ·obtain⟨t,ht⟩:∃ t,a.ts[j]? = some t:=⟨a.ts[j]'(by rw[HM.out];exact hjt),FD (by rw[HM.out];exact hjt)⟩
     obtain⟨tb,tfo,tcap,htv,_,_,htbl,hce⟩:=(HROW.out.keep hbi).get (i:=j) (x:=t.cells) (by simp [ht])
     simp only[List.length_map,HM.out,Value.slice.injEq,true_and] at htv
     obtain⟨rfl,rfl⟩:=htv
     have u0:=hce 0 _ rfl
     have u1:=hce 1 _ rfl
     have u2:=hce 2 _ rfl
     have u3:=hce 3 _ rfl
     simp only[Nat.add_zero] at u0
     obtain⟨n0,n1⟩:=HVA.out t (FC ht)
     have HSJ:=Fx (HRS1.out j t ht)
     obtain⟨⟨y,hy⟩,hyz,hgl⟩:=en OI.out hjt (j:=0) (by decide)
     simp only[Nat.mul_one,Nat.add_zero] at hy hyz
     have hgw:g2≠wi.heap.size:=by omega
     have hgw2:¬ wi.heap.size=g2:=by omega
     have OA:=Fx (fun (c:Array Value) (s:List UInt8)=>(MT.ofBelow (B:=0) (Ts:=[]) (ae (Below.refl (wi.setCell ⟨g2,j,none⟩ (.string ⟨s.toArray⟩)).heap.size (wi.setCell ⟨g2,j,none⟩ (.string ⟨s.toArray⟩))) (.cells c 113))).ownsRow (cZ (s:=s) OI.out (HRL1.out j) hjt).1 (by simp))
     have BA:=Fx (fun (c:Array Value) (s:List UInt8)=>Below.allocG HZ1.out (aq.ownG HZ1.out BI.out (cZ (s:=s) OI.out (HRL1.out j) hjt).2 FA) (.cells c 113))
     clear hce ht hbi
     by_cases hx:t.x=[]
     ·have htm1:kN t=aW t.k t.n t.t:=by unfold kN;rw[if_pos hx]
      have hsv:=fun W (hW:bY W)=>rF t.k t.n ⟨t.t.toArray⟩ W n0 n1 hW
      have htt:(⟨t.t.toArray⟩:ByteArray).data.toList=t.t:=by simp
      rw[htt,<-htm1] at hsv
      generalize kN t=word at *
      have HSV:=Fx hsv
      rw[hx] at u0
      have h2:=OA.out #[.string ⟨#[]⟩,.int .i64 t.k,.int .i64 t.n,.string ⟨t.t.toArray⟩] []
      have h3:=BA.out #[.string ⟨#[]⟩,.int .i64 t.k,.int .i64 t.n,.string ⟨t.t.toArray⟩] []
      have hgl:=HG.out.below (BW.out.trans ((HB1.out.trans (h3.mono (by omega))).mono BW.out.size))
      have H2:=Fx h2
      have H3:=Fx h3
      have HGL:=Fx hgl
      clear hsv htt htm1 h2 h3 hgl
      go_wp2_with fail
      refine (HSV.out _ HGL.out).mono ?_
      rintro e w7 ⟨rfl,hb7⟩
      have o7:=(MT.ofBelow (B:=0) (Ts:=[]) hb7).ownsRow H2.out (by simp)
      obtain⟨⟨y7,hy7⟩,hyz7,hgl7⟩:=en o7 hjt (j:=0) (by decide)
      simp only[Nat.mul_one,Nat.add_zero] at hy7 hyz7
      have O7:=Fx o7
      have B7:=Fx (H3.out.trans (hb7.mono (by simp;omega)))
      clear o7 hb7
      go_wp2_with fail
      go_roundw
      case rel =>
       have h8:=cZ (s:=word) O7.out (by rw[List.length_set];exact HRL1.out j) hjt
       rw[List.set_set,HSJ.out] at h8
       exact⟨j+1,by omega,by go_num,Fx h8.1,Fx (aq.ownG HZ1.out B7.out h8.2 FA)⟩
      case measure=>simp [intOf];omega
     ·have htm1:kN t=t.x:=by unfold kN;rw[if_neg hx]
      have he:=fx hx
      have he2:t.x.isEmpty=false:=by
       cases hxx:t.x with
       | nil=>exact absurd hxx hx
       | cons _ _=>rfl
      have he3:(!t.x.isEmpty)=true:=by rw[he2];rfl
      have HTM:=Fx htm1
      have HX:=Fx hx
      clear htm1 hx
      go_wp2_with fail
      go_roundw
      case rel =>
       have h8:=OA.out #[.string ⟨t.x.toArray⟩,.int .i64 t.k,.int .i64 t.n,.string ⟨t.t.toArray⟩] t.x
       have hsj:=HSJ.out
       rw[HTM.out] at hsj
       rw[hsj] at h8
       exact⟨j+1,by omega,by go_num,Fx h8,Fx (BA.out _ t.x)⟩
      case measure=>simp [intOf];omega
    ·obtain rfl:j=m:=by omega
     have hst:=iS OI.out (HRL1.out j) (by omega)
     rw[HRA1.out] at hst
     have hjn:=iB wi.drew _ _ ⟨#[44,32]⟩ (hst.keep (ay Fy)) (Nat.le_trans HJL.out (by decide))
     have hjn2:Calls prog 149 #[.slice (some ⟨g2,0,none⟩) j j,.string ⟨#[44,32]⟩] wi.drew fun e w'=>e=.returned (.string ⟨(Lib.join (a.ts.map kN) [44,32]).toArray⟩)/\Below wi.drew.heap.size wi.drew w':=hjn
     have hjl:=HJL.out
     have hcc:(ByteArray.mk a.rel.toArray++ByteArray.mk #[40])++ByteArray.mk (Lib.join (a.ts.map kN) [44,32]).toArray++ByteArray.mk #[41]=⟨(lA a).toArray⟩:=by
      unfold lA
      apply ByteArray.ext
      simp
     have hrz:a.rel.length<=16:=hrl
     generalize Lib.join (a.ts.map kN) [44,32]=J at *
     have HJ:=Fx hjn2
     have HCC:=Fx hcc
     have oo:=(MT.ofBelow (B:=0) (Ts:=[]) hbi).ownsRow OW.out (by simp)
     obtain⟨⟨y,hy⟩,hyz,hgl⟩:=en oo hkn (j:=0) (by decide)
     simp only[Nat.mul_one,Nat.add_zero] at hy hyz
     have habi:=HAB1.out.below BI.out hg2
     have z0:=habi.cell 0
     have zl:=habi.lt
     simp only[List.getElem?_toArray,List.getElem?_cons_zero] at z0
     have OO:=Fx oo
     have hl1:¬ 9223372036854775807<a.rel.length+1:=by omega
     have hl2:¬ 9223372036854775807<a.rel.length+1+J.length:=by omega
     have hl3:¬ 9223372036854775807<a.rel.length+1+J.length+1:=by omega
     have hdk:decide ((k:Int)<0)=false:=by simp
     have hdn:decide ((n:Int)<=(k:Int))=false:=by simp;omega
     clear hst hjn hjn2 hcc oo habi hbi
     go_wp2_with fail
     go_region_law (go_simp;go_at_call 149;refine HJ.out.mono ?_;rintro e w8 ⟨rfl,hb8⟩;have z8:=(hb8.cell (p:=⟨wo.heap.size,0,none⟩) zl).trans (show wi.drew.cell? ⟨wo.heap.size,0,none⟩=_ from z0);have y8:=(hb8.cell (p:=⟨g,k,none⟩) hgl).trans (show wi.drew.cell? ⟨g,k,none⟩=_ from hy);have f8:=(hb8.frozen (p:=⟨g,k,none⟩) hgl).trans (show wi.drew.frozen? ⟨g,k,none⟩=_ from hyz))
     all_goals
      have o8:=(MT.ofBelow (B:=0) (Ts:=[]) hb8).ownsRow ((MT.ofBelow (B:=0) (Ts:=[]) (ay (Below.refl wi.heap.size wi))).ownsRow OO.out (by simp)) (by simp)
      have O8:=Fx o8
      have B8:=Fx (BG.out.trans ((HBI.out.trans ((ay (Below.refl wi.heap.size wi)).trans hb8 |>.mono HBI.out.size)).mono (by omega)))
      clear o8 hb8
      go_wp2_with fail
      go_roundw
      case rel =>
       have h9:=cZ (s:=lA a) O8.out (HRL0.out k) hkn
       rw[HSET.out] at h9
       refine⟨k+1,by omega,by go_num,Fx ?_,Fx ?_⟩
       ·rw[HCC.out]
        exact h9.1
       ·rw[HCC.out]
        exact aq.ownG HGZ.out B8.out h9.2 FA
      case measure=>simp [intOf];omega
  ·obtain rfl:k=n:=by omega
   have hst:=iS OW.out (HRL0.out k) (by omega)
   rw[HRA.out] at hst
   have hh:=HH.out
   have hj1:=HJ1.out
   have hj2:=HJ2.out
   have hxb:af wo w.heap.size 50 #[.string nm,.slice hda hn hdc,.slice ad k cap]:=by
    have:=BG.out
    have hz:=HGZ.out
    subst hz
    exact HBX2.out.below this HBX2.out.lt
   have x0:=hxb.cell 0
   have x1:=hxb.cell 1
   have hxl:=hxb.lt
   simp only[FF] at x0 x1
   obtain⟨J1,hJ1⟩:∃ J1,J1=Lib.join hd [44,32]:=⟨_,rfl⟩
   obtain⟨J2,hJ2⟩:∃ J2,J2=Lib.join (al.map lA) [44,32]:=⟨_,rfl⟩
   have hcc:nm++ByteArray.mk #[40]++ByteArray.mk J1.toArray++ByteArray.mk #[41,32,58,45,32]++ByteArray.mk J2.toArray=⟨(nm.data.toList++40::(Lib.join hd [44,32]++41::32::58::45::32::Lib.join (al.map lA) [44,32])).toArray⟩:=by
    rw[hJ1,hJ2]
    apply ByteArray.ext
    simp
   have hbW:=Below.refl wo.heap.size wo
   have HJA:Hid (∀ W,(W.cell? ⟨w.heap.size,0,none⟩=some (.string nm)/\W.cell? ⟨w.heap.size,1,none⟩=some (.slice hda hn hdc)/\Below wo.heap.size wo W)->Calls prog 149 #[.slice hda hn hdc,.string ⟨#[44,32]⟩] W fun e w'=>e=.returned (.string ⟨(Lib.join hd [44,32]).toArray⟩)/\(w'.cell? ⟨w.heap.size,0,none⟩=some (.string nm)/\w'.cell? ⟨w.heap.size,1,none⟩=some (.slice hda hn hdc)/\Below wo.heap.size wo w')) :=
    Fx fun W hW=>(iB W _ hd ⟨#[44,32]⟩ (hh.keep (BW.out.trans (hW.2.2.mono BW.out.size))) (Nat.le_trans hj1 (by decide))).mono fun e w' he=>⟨he.1,(he.2.cell (p:=⟨w.heap.size,0,none⟩) (Nat.lt_of_lt_of_le hxl hW.2.2.size)).trans hW.1,(he.2.cell (p:=⟨w.heap.size,1,none⟩) (Nat.lt_of_lt_of_le hxl hW.2.2.size)).trans hW.2.1,hW.2.2.trans (he.2.mono hW.2.2.size)⟩
   have HJB:Hid (∀ W,(W.cell? ⟨w.heap.size,0,none⟩=some (.string nm)/\W.cell? ⟨w.heap.size,1,none⟩=some (.slice hda hn hdc)/\Below wo.heap.size wo W)->Calls prog 149 #[.slice (some ⟨g,0,none⟩) k k,.string ⟨#[44,32]⟩] W fun e w'=>e=.returned (.string ⟨(Lib.join (al.map lA) [44,32]).toArray⟩)/\(w'.cell? ⟨w.heap.size,0,none⟩=some (.string nm)/\w'.cell? ⟨w.heap.size,1,none⟩=some (.slice hda hn hdc)/\Below wo.heap.size wo w')) :=
    Fx fun W hW=>(iB W _ (al.map lA) ⟨#[44,32]⟩ (hst.keep hW.2.2) (Nat.le_trans hj2 (by decide))).mono fun e w' he=>⟨he.1,(he.2.cell (p:=⟨w.heap.size,0,none⟩) (Nat.lt_of_lt_of_le hxl hW.2.2.size)).trans hW.1,(he.2.cell (p:=⟨w.heap.size,1,none⟩) (Nat.lt_of_lt_of_le hxl hW.2.2.size)).trans hW.2.1,hW.2.2.trans (he.2.mono hW.2.2.size)⟩
   have HCC:=Fx hcc
   rw[<-hJ1] at HJA hj1
   rw[<-hJ2] at HJB hj2
   have hl1:¬ 9223372036854775807<nm.size+1:=by omega
   have hl2:¬ 9223372036854775807<nm.size+1+J1.length:=by omega
   have hl3:¬ 9223372036854775807<nm.size+1+J1.length+5:=by omega
   have hl4:¬ 9223372036854775807<nm.size+1+J1.length+5+J2.length:=by omega
   clear hst hh hj1 hj2 hxb hcc hJ1 hJ2
   go_wp2_with fail
   go_region_held3 (fun w'=>w'.cell? ⟨w.heap.size,0,none⟩=some (.string nm)/\w'.cell? ⟨w.heap.size,1,none⟩=some (.slice hda hn hdc)/\Below wo.heap.size wo w')
    (first | exact hK | (go_split_ands;refine⟨?_,?_,?_⟩<;>first | exact ay (by assumption) | assumption | go_keep))
    (first
      | (go_at_call 149;go_split_ands;with_reducible refine Calls.mono (HJA.out _ ⟨by assumption,by assumption,by assumption⟩) ?_;rintro e w' ⟨rfl,hK⟩)
      | (go_at_call 149;go_split_ands;with_reducible refine Calls.mono (HJB.out _ ⟨by assumption,by assumption,by assumption⟩) ?_;rintro e w' ⟨rfl,hK⟩))
   all_goals go_split_ands
   all_goals go_wp2_with fail
   all_goals (go_ret;exact⟨congrArg (fun x=>Ending.returned (Value.string x)) HCC.out,BW.out.trans (Below.mono (by assumption) BW.out.size)⟩)
