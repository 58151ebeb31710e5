/- query.badName, badTerm, Shape's closures, walked. query.Shape, walked. query.Show, walked. osierref09.Shape, walked. osierref09.ShowAtom, Show, walked. -/
import Derived.Test.YtgopfpjinohncaaGreatDoorRxL
import Derived.Test.YtgopfpjinohncaaGreatDoorJyL
import Derived.Test.YtgopfpjinohncaaGreatDoorInStrZL
import Derived.Test.YtgopfpjinohncaaGreatDoorInAtmZL
import Derived.Test.YtgopfpjinohncaaGreatDoorLcL
import Derived.Test.YtgopfpjinohncaaGreatDoorGmL
import Derived.Test.YtgopfpjinohncaaGreatDoorGnL
import Derived.Test.YtgopfpjinohncaaGreatDoorLeL
import Derived.Test.YtgopfpjinohncaaGreatDoorGcL
import Derived.OwnWalk
import Derived.Deep.QuietTactic
import Derived.BigQuiet
import Derived.Deep.RegionLaw
import Derived.Deep.RegionHeld3
namespace Go.Proofs.YtgopfpjinohncaaGreatDoor
open Go.RowKit
set_option linter.unusedVariables false
set_option maxHeartbeats 1000000 in
set_option maxRecDepth 100000 in
theorem badNameClo_any (w:World) (s:List UInt8) (hs:s.length<=140737488355328) :
 Calls Tryz.prog 215 #[.string ⟨s.toArray⟩] w fun e w'=>e=.returned (.bool (!isNameB s))/\w=w':=by
 have hnot:∀ (x:Bool) (w:World),(Op.unary .not (.bool x)).run Tryz.prog w=.ok (.bool (!x)) w:=fun _ _=>rfl
 have HI:=Lib.hid (fun W=>isName_any ⟨s.toArray⟩ W (by simpa [ByteArray.size] using hs))
 obtain⟨q,hq⟩:∃ q,q=isNameB s:=⟨_,rfl⟩
 rw[<-hq]
 have HQ:=Lib.hid hq
 clear hq hs
 go_enter Tryz.func215,Tryz.ntmps215
 go_wp2_with fail
 refine (HI.out _).mono ?_
 rintro e w2 ⟨rfl,rfl⟩
 go_wp2_with fail
 go_ret
 exact⟨by rw[HQ.out];rfl,rfl⟩
def LensA (al:List Atm):Prop:=∀ a∈al,a.rel.length<=140737488355328/\∀ t∈a.ts,t.x.length<=140737488355328
set_option maxHeartbeats 16000000 in
set_option maxRecDepth 100000 in
theorem badName_any (w:World) (nm:ByteArray) (hv av:Value) (hd:List (List UInt8)) (al:List Atm) (hh:StrsAt w hv hd) (h:AtomsAt w av al) (hn:nm.size<=140737488355328) (hl:∀ s∈hd,s.length<=140737488355328) (ha:LensA al) :
 Calls Tryz.prog 166 #[.agg #[.string nm,hv,av]] w fun e w'=>e=.returned (.bool (badNq ⟨nm.data.toList,hd,al⟩))/\Below w.heap.size w w':=by
 have hnot:∀ (x:Bool) (w:World),(Op.unary .not (.bool x)).run Tryz.prog w=.ok (.bool (!x)) w:=fun _ _=>rfl
 have hbox:=Blk.new w 50 #[.string nm,hv,av]
 have hb0:Below w.heap.size w (w.alloc (.cells #[.string nm,hv,av] 50)):=balloc (Below.refl _ _) _
 have hhc:=containsN_Str 215 #[] (enters_of Tryz.func215 (by kernel_rfl) rfl) (atP hd fun s => !isNameB s) (w.alloc (.cells #[.string nm,hv,av] 50)) hv (hd.map strC) (hh.keep hb0) (by intro x hx;simp at hx;obtain⟨s,_,rfl⟩:=hx;rfl) (fun W k x _ hx=>by
  rw[List.getElem?_map] at hx
  cases hs:hd[k]? with
  | none=>rw[hs] at hx;simp at hx
  | some s =>
    rw[hs] at hx
    simp only[Option.map_some,Option.some.injEq] at hx
    subst hx
    rw[atP_some hs]
    refine (badNameClo_any W s (hl s (List.mem_of_getElem? hs))).mono ?_
    rintro e W' ⟨rfl,rfl⟩
    exact⟨rfl,Below.refl _ _⟩)
 rw[range_any hd _ (List.length_map _)] at hhc
 have HNM:=Lib.hid (fun W=>isName_any nm W hn)
 have HNA:=Lib.hid (fun W (s:List UInt8) (hs:s.length<=140737488355328)=>isName_any ⟨s.toArray⟩ W (by simpa [ByteArray.size] using hs))
 obtain⟨ah,hcap,rfl,_,_⟩:=hh.form
 obtain⟨ad,cap,rfl,hnc,hcm⟩:=h.form
 unfold maxLen at hcm
 have HR:=Lib.hid h
 have HA:=Lib.hid ha
 have HHC:=Lib.hid hhc
 have HB0:=Lib.hid hb0
 have HBX:=Lib.hid hbox
 have hres:badNq ⟨nm.data.toList,hd,al⟩=((!isNameB nm.data.toList || hd.any fun s => !isNameB s) || al.any badNa):=rfl
 rw[hres]
 clear h ha hhc hb0 hbox hn hl hres hh
 generalize hd.length=hn at *
 generalize (hd.any fun s => !isNameB s)=hq at *
 generalize isNameB nm.data.toList=bn at *
 obtain⟨B,hB⟩:∃ B,B=(!bn || hq):=⟨_,rfl⟩
 rw[<-hB]
 have HB:=Lib.hid hB
 clear hB
 generalize hN:al.length=n at *
 have HN:=Lib.hid hN
 clear hN
 go_enter Tryz.func166,Tryz.ntmps166
 go_wp2_with fail
 refine (HNM.out _).mono ?_
 rintro e w1 ⟨rfl,rfl⟩
 cases bn with
 | false =>
   have HBS:=HB0
   go_wp2_with fail
   go_loopw [3,20] (fun b i wr=>∃ k:Nat,k<=n/\i=.int .i64 k/\b=.bool (B || (al.take k).any badNa)/\Hid (Below w.heap.size w wr)) (fun _ i _=>n - (intOf i).toNat)
   case atStart=>exact⟨0,Nat.zero_le _,rfl,by rw[HB.out];rfl,HBS⟩
   case round =>
    obtain⟨k,hk,rfl,rfl,HW⟩:=hrel
    obtain⟨wo,rfl⟩:∃ wo:World,wo=wr:=⟨_,rfl⟩
    by_cases hlt:k<n
    ·obtain⟨a,ha⟩:∃ a,al[k]? = some a:=⟨al[k]'(by rw[HN.out];exact hlt),List.getElem?_eq_getElem (by rw[HN.out];exact hlt)⟩
     obtain⟨b,off,cap',tv,hv',_,_,hbl,q0,q1,hrow,hal⟩:=(HR.out.keep HW.out).get ha
     rw[HN.out] at hv'
     simp only[Value.slice.injEq,true_and] at hv'
     obtain⟨rfl,rfl⟩:=hv'
     obtain⟨ta,tc,rfl,htc,htm⟩:=hrow.form
     unfold maxLen at htm
     obtain⟨hrl,htx⟩:=HA.out a (List.mem_of_getElem? ha)
     have hst:=take_any_succ badNa ha
     have HST:=Lib.hid hst
     have HTX:=Lib.hid htx
     have HROW:=Lib.hid hrow
     have HNR:=Lib.hid (fun W=>HNA.out W a.rel hrl)
     rw[List.length_map] at *
     generalize hM:a.ts.length=m at *
     have HM:=Lib.hid hM
     obtain⟨bb,hbb⟩:∃ bb,(B || (al.take k).any badNa)=bb:=⟨_,rfl⟩
     rw[hbb]
     have HBB:=Lib.hid hbb
     obtain⟨rb,hrb⟩:∃ rb,isNameB a.rel=rb:=⟨_,rfl⟩
     have HRB:=Lib.hid hrb
     obtain⟨b1,hb1⟩:∃ b1,b1=(bb || !rb):=⟨_,rfl⟩
     have HB1:=Lib.hid hb1
     have hrr:(⟨a.rel.toArray⟩:ByteArray).data.toList=a.rel:=by simp
     have hnr:=HNR.out
     rw[hrb] at hnr
     have HNR:=Lib.hid hnr
     clear ha hst hrow hal htx hM hbb hrb hb1 hrr hnr
     cases bb with
     | true =>
       go_wp2_with fail
       go_loopw [3,34] (fun b i wr=>∃ j:Nat,j<=m/\i=.int .i64 j/\b=.bool (b1 || (a.ts.take j).any badNt)/\Hid (Below wo.heap.size wo wr)) (fun _ i _=>m - (intOf i).toNat)
       case atStart=>exact⟨0,Nat.zero_le _,rfl,by rw[HB1.out];simp,Lib.hid (balloc (Below.refl _ _) _)⟩
       case round =>
        obtain⟨j,hj,rfl,rfl,HX⟩:=hrel
        by_cases hjt:j<m
        ·obtain⟨t,ht⟩:∃ t,a.ts[j]? = some t:=⟨a.ts[j]'(by rw[HM.out];exact hjt),List.getElem?_eq_getElem (by rw[HM.out];exact hjt)⟩
         obtain⟨tb,tfo,tcap,htv,_,_,htbl,hce⟩:=(HROW.out.keep HX.out).get (i:=j) (x:=t.cells) (by simp [ht])
         simp only[List.length_map,HM.out,Value.slice.injEq,true_and] at htv
         obtain⟨rfl,rfl⟩:=htv
         have u0:=hce 0 _ rfl
         have u1:=hce 1 _ rfl
         have u2:=hce 2 _ rfl
         have u3:=hce 3 _ rfl
         simp only[Nat.add_zero] at u0
         have hxl:=HTX.out t (List.mem_of_getElem? ht)
         have HTS:=Lib.hid (take_any_succ badNt ht)
         obtain⟨cc,hcc⟩:∃ cc,(b1 || (a.ts.take j).any badNt)=cc:=⟨_,rfl⟩
         rw[hcc]
         have HCC:=Lib.hid hcc
         clear hce ht hcc
         cases cc with
         | true =>
           go_wp2_with fail
           go_roundw
           case rel=>exact⟨j+1,by omega,by go_num,by rw[HTS.out,<-Bool.or_assoc,HCC.out];rfl,Lib.hid (balloc HX.out _)⟩
           case measure=>simp [intOf];omega
         | false =>
           by_cases hx:t.x=[]
           ·have hbn:badNt t=false:=by unfold badNt;rw[hx];rfl
            have HBN:=Lib.hid hbn
            rw[hx] at u0
            clear hbn hx
            go_wp2_with fail
            go_roundw
            case rel=>exact⟨j+1,by omega,by go_num,by rw[HTS.out,<-Bool.or_assoc,HCC.out,HBN.out];rfl,Lib.hid (balloc HX.out _)⟩
            case measure=>simp [intOf];omega
           ·have he:=ba_empty hx
            have he2:t.x.isEmpty=false:=by
             cases hxx:t.x with
             | nil=>exact absurd hxx hx
             | cons _ _=>rfl
            have he3:(!t.x.isEmpty)=true:=by rw[he2];rfl
            have hbn:badNt t = !isNameB t.x:=by unfold badNt;rw[decide_eq_true hx];rfl
            obtain⟨xb,hxb⟩:∃ xb,isNameB t.x=xb:=⟨_,rfl⟩
            rw[hxb] at hbn
            have hxx:(⟨t.x.toArray⟩:ByteArray).data.toList=t.x:=by simp
            have hnx:=HNA.out
            have hnx2:=fun W=>hnx W t.x hxl
            rw[hxb] at hnx2
            have HNX:=Lib.hid hnx2
            have HBN:=Lib.hid hbn
            clear hx hbn hxb hxx hnx hnx2
            go_wp2_with fail
            refine (HNX.out _).mono ?_
            rintro e w4 ⟨rfl,rfl⟩
            go_wp2_with fail
            go_roundw
            case rel=>exact⟨j+1,by omega,by go_num,by rw[HTS.out,<-Bool.or_assoc,HCC.out,HBN.out];cases xb<;>rfl,Lib.hid (balloc HX.out _)⟩
            case measure=>simp [intOf];omega
        ·obtain rfl:j=m:=by omega
         go_wp2_with fail
         go_roundw
         case rel =>
          refine⟨k+1,by omega,by go_num,?_,Lib.hid (HW.out.trans (HX.out.mono HW.out.size))⟩
          rw[List.take_of_length_le (by rw[HM.out];exact Nat.le_refl _),HST.out,<-Bool.or_assoc,HBB.out,HB1.out]
          unfold badNa
          rw[HRB.out,Bool.or_assoc]
         case measure=>simp [intOf];omega
     | false =>
       go_wp2_with fail
       refine (HNR.out _).mono ?_
       rintro e w3 ⟨rfl,rfl⟩
       go_wp2_with fail
       go_loopw [3,34] (fun b i wr=>∃ j:Nat,j<=m/\i=.int .i64 j/\b=.bool (b1 || (a.ts.take j).any badNt)/\Hid (Below wo.heap.size wo wr)) (fun _ i _=>m - (intOf i).toNat)
       case atStart=>exact⟨0,Nat.zero_le _,rfl,by rw[HB1.out];simp,Lib.hid (balloc (Below.refl _ _) _)⟩
       case round =>
        obtain⟨j,hj,rfl,rfl,HX⟩:=hrel
        by_cases hjt:j<m
        ·obtain⟨t,ht⟩:∃ t,a.ts[j]? = some t:=⟨a.ts[j]'(by rw[HM.out];exact hjt),List.getElem?_eq_getElem (by rw[HM.out];exact hjt)⟩
         obtain⟨tb,tfo,tcap,htv,_,_,htbl,hce⟩:=(HROW.out.keep HX.out).get (i:=j) (x:=t.cells) (by simp [ht])
         simp only[List.length_map,HM.out,Value.slice.injEq,true_and] at htv
         obtain⟨rfl,rfl⟩:=htv
         have u0:=hce 0 _ rfl
         have u1:=hce 1 _ rfl
         have u2:=hce 2 _ rfl
         have u3:=hce 3 _ rfl
         simp only[Nat.add_zero] at u0
         have hxl:=HTX.out t (List.mem_of_getElem? ht)
         have HTS:=Lib.hid (take_any_succ badNt ht)
         obtain⟨cc,hcc⟩:∃ cc,(b1 || (a.ts.take j).any badNt)=cc:=⟨_,rfl⟩
         rw[hcc]
         have HCC:=Lib.hid hcc
         clear hce ht hcc
         cases cc with
         | true =>
           go_wp2_with fail
           go_roundw
           case rel=>exact⟨j+1,by omega,by go_num,by rw[HTS.out,<-Bool.or_assoc,HCC.out];rfl,Lib.hid (balloc HX.out _)⟩
           case measure=>simp [intOf];omega
         | false =>
           by_cases hx:t.x=[]
           ·have hbn:badNt t=false:=by unfold badNt;rw[hx];rfl
            have HBN:=Lib.hid hbn
            rw[hx] at u0
            clear hbn hx
            go_wp2_with fail
            go_roundw
            case rel=>exact⟨j+1,by omega,by go_num,by rw[HTS.out,<-Bool.or_assoc,HCC.out,HBN.out];rfl,Lib.hid (balloc HX.out _)⟩
            case measure=>simp [intOf];omega
           ·have he:=ba_empty hx
            have he2:t.x.isEmpty=false:=by
             cases hxx:t.x with
             | nil=>exact absurd hxx hx
             | cons _ _=>rfl
            have he3:(!t.x.isEmpty)=true:=by rw[he2];rfl
            have hbn:badNt t = !isNameB t.x:=by unfold badNt;rw[decide_eq_true hx];rfl
            obtain⟨xb,hxb⟩:∃ xb,isNameB t.x=xb:=⟨_,rfl⟩
            rw[hxb] at hbn
            have hxx:(⟨t.x.toArray⟩:ByteArray).data.toList=t.x:=by simp
            have hnx:=HNA.out
            have hnx2:=fun W=>hnx W t.x hxl
            rw[hxb] at hnx2
            have HNX:=Lib.hid hnx2
            have HBN:=Lib.hid hbn
            clear hx hbn hxb hxx hnx hnx2
            go_wp2_with fail
            refine (HNX.out _).mono ?_
            rintro e w4 ⟨rfl,rfl⟩
            go_wp2_with fail
            go_roundw
            case rel=>exact⟨j+1,by omega,by go_num,by rw[HTS.out,<-Bool.or_assoc,HCC.out,HBN.out];cases xb<;>rfl,Lib.hid (balloc HX.out _)⟩
            case measure=>simp [intOf];omega
        ·obtain rfl:j=m:=by omega
         go_wp2_with fail
         go_roundw
         case rel =>
          refine⟨k+1,by omega,by go_num,?_,Lib.hid (HW.out.trans (HX.out.mono HW.out.size))⟩
          rw[List.take_of_length_le (by rw[HM.out];exact Nat.le_refl _),HST.out,<-Bool.or_assoc,HBB.out,HB1.out]
          unfold badNa
          rw[HRB.out,Bool.or_assoc]
         case measure=>simp [intOf];omega
    ·obtain rfl:k=n:=by omega
     go_wp2_with fail
     go_ret
     rw[List.take_of_length_le (by rw[HN.out];exact Nat.le_refl _)]
     exact⟨rfl,HW.out⟩
 | true =>
   go_wp2_with fail
   refine HHC.out.mono ?_
   rintro e w2 ⟨rfl,hb2⟩
   have HBS:=Lib.hid (HB0.out.trans (hb2.mono (by simp)))
   have y2:=(HBX.out.below hb2 (by simp)).cell 2
   have yl:=(HBX.out.below hb2 (by simp)).lt
   simp only[List.getElem?_toArray,List.getElem?_cons_zero,List.getElem?_cons_succ] at y2
   clear hb2
   go_wp2_with fail
   go_loopw [3,20] (fun b i wr=>∃ k:Nat,k<=n/\i=.int .i64 k/\b=.bool (B || (al.take k).any badNa)/\Hid (Below w.heap.size w wr)) (fun _ i _=>n - (intOf i).toNat)
   case atStart=>exact⟨0,Nat.zero_le _,rfl,by rw[HB.out];simp,HBS⟩
   case round =>
    obtain⟨k,hk,rfl,rfl,HW⟩:=hrel
    obtain⟨wo,rfl⟩:∃ wo:World,wo=wr:=⟨_,rfl⟩
    by_cases hlt:k<n
    ·obtain⟨a,ha⟩:∃ a,al[k]? = some a:=⟨al[k]'(by rw[HN.out];exact hlt),List.getElem?_eq_getElem (by rw[HN.out];exact hlt)⟩
     obtain⟨b,off,cap',tv,hv',_,_,hbl,q0,q1,hrow,hal⟩:=(HR.out.keep HW.out).get ha
     rw[HN.out] at hv'
     simp only[Value.slice.injEq,true_and] at hv'
     obtain⟨rfl,rfl⟩:=hv'
     obtain⟨ta,tc,rfl,htc,htm⟩:=hrow.form
     unfold maxLen at htm
     obtain⟨hrl,htx⟩:=HA.out a (List.mem_of_getElem? ha)
     have hst:=take_any_succ badNa ha
     have HST:=Lib.hid hst
     have HTX:=Lib.hid htx
     have HROW:=Lib.hid hrow
     have HNR:=Lib.hid (fun W=>HNA.out W a.rel hrl)
     rw[List.length_map] at *
     generalize hM:a.ts.length=m at *
     have HM:=Lib.hid hM
     obtain⟨bb,hbb⟩:∃ bb,(B || (al.take k).any badNa)=bb:=⟨_,rfl⟩
     rw[hbb]
     have HBB:=Lib.hid hbb
     obtain⟨rb,hrb⟩:∃ rb,isNameB a.rel=rb:=⟨_,rfl⟩
     have HRB:=Lib.hid hrb
     obtain⟨b1,hb1⟩:∃ b1,b1=(bb || !rb):=⟨_,rfl⟩
     have HB1:=Lib.hid hb1
     have hrr:(⟨a.rel.toArray⟩:ByteArray).data.toList=a.rel:=by simp
     have hnr:=HNR.out
     rw[hrb] at hnr
     have HNR:=Lib.hid hnr
     clear ha hst hrow hal htx hM hbb hrb hb1 hrr hnr
     cases bb with
     | true =>
       go_wp2_with fail
       go_loopw [3,34] (fun b i wr=>∃ j:Nat,j<=m/\i=.int .i64 j/\b=.bool (b1 || (a.ts.take j).any badNt)/\Hid (Below wo.heap.size wo wr)) (fun _ i _=>m - (intOf i).toNat)
       case atStart=>exact⟨0,Nat.zero_le _,rfl,by rw[HB1.out];simp,Lib.hid (balloc (Below.refl _ _) _)⟩
       case round =>
        obtain⟨j,hj,rfl,rfl,HX⟩:=hrel
        by_cases hjt:j<m
        ·obtain⟨t,ht⟩:∃ t,a.ts[j]? = some t:=⟨a.ts[j]'(by rw[HM.out];exact hjt),List.getElem?_eq_getElem (by rw[HM.out];exact hjt)⟩
         obtain⟨tb,tfo,tcap,htv,_,_,htbl,hce⟩:=(HROW.out.keep HX.out).get (i:=j) (x:=t.cells) (by simp [ht])
         simp only[List.length_map,HM.out,Value.slice.injEq,true_and] at htv
         obtain⟨rfl,rfl⟩:=htv
         have u0:=hce 0 _ rfl
         have u1:=hce 1 _ rfl
         have u2:=hce 2 _ rfl
         have u3:=hce 3 _ rfl
         simp only[Nat.add_zero] at u0
         have hxl:=HTX.out t (List.mem_of_getElem? ht)
         have HTS:=Lib.hid (take_any_succ badNt ht)
         obtain⟨cc,hcc⟩:∃ cc,(b1 || (a.ts.take j).any badNt)=cc:=⟨_,rfl⟩
         rw[hcc]
         have HCC:=Lib.hid hcc
         clear hce ht hcc
         cases cc with
         | true =>
           go_wp2_with fail
           go_roundw
           case rel=>exact⟨j+1,by omega,by go_num,by rw[HTS.out,<-Bool.or_assoc,HCC.out];rfl,Lib.hid (balloc HX.out _)⟩
           case measure=>simp [intOf];omega
         | false =>
           by_cases hx:t.x=[]
           ·have hbn:badNt t=false:=by unfold badNt;rw[hx];rfl
            have HBN:=Lib.hid hbn
            rw[hx] at u0
            clear hbn hx
            go_wp2_with fail
            go_roundw
            case rel=>exact⟨j+1,by omega,by go_num,by rw[HTS.out,<-Bool.or_assoc,HCC.out,HBN.out];rfl,Lib.hid (balloc HX.out _)⟩
            case measure=>simp [intOf];omega
           ·have he:=ba_empty hx
            have he2:t.x.isEmpty=false:=by
             cases hxx:t.x with
             | nil=>exact absurd hxx hx
             | cons _ _=>rfl
            have he3:(!t.x.isEmpty)=true:=by rw[he2];rfl
            have hbn:badNt t = !isNameB t.x:=by unfold badNt;rw[decide_eq_true hx];rfl
            obtain⟨xb,hxb⟩:∃ xb,isNameB t.x=xb:=⟨_,rfl⟩
            rw[hxb] at hbn
            have hxx:(⟨t.x.toArray⟩:ByteArray).data.toList=t.x:=by simp
            have hnx:=HNA.out
            have hnx2:=fun W=>hnx W t.x hxl
            rw[hxb] at hnx2
            have HNX:=Lib.hid hnx2
            have HBN:=Lib.hid hbn
            clear hx hbn hxb hxx hnx hnx2
            go_wp2_with fail
            refine (HNX.out _).mono ?_
            rintro e w4 ⟨rfl,rfl⟩
            go_wp2_with fail
            go_roundw
            case rel=>exact⟨j+1,by omega,by go_num,by rw[HTS.out,<-Bool.or_assoc,HCC.out,HBN.out];cases xb<;>rfl,Lib.hid (balloc HX.out _)⟩
            case measure=>simp [intOf];omega
        ·obtain rfl:j=m:=by omega
         go_wp2_with fail
         go_roundw
         case rel =>
          refine⟨k+1,by omega,by go_num,?_,Lib.hid (HW.out.trans (HX.out.mono HW.out.size))⟩
          rw[List.take_of_length_le (by rw[HM.out];exact Nat.le_refl _),HST.out,<-Bool.or_assoc,HBB.out,HB1.out]
          unfold badNa
          rw[HRB.out,Bool.or_assoc]
         case measure=>simp [intOf];omega
     | false =>
       go_wp2_with fail
       refine (HNR.out _).mono ?_
       rintro e w3 ⟨rfl,rfl⟩
       go_wp2_with fail
       go_loopw [3,34] (fun b i wr=>∃ j:Nat,j<=m/\i=.int .i64 j/\b=.bool (b1 || (a.ts.take j).any badNt)/\Hid (Below wo.heap.size wo wr)) (fun _ i _=>m - (intOf i).toNat)
       case atStart=>exact⟨0,Nat.zero_le _,rfl,by rw[HB1.out];simp,Lib.hid (balloc (Below.refl _ _) _)⟩
       case round =>
        obtain⟨j,hj,rfl,rfl,HX⟩:=hrel
        by_cases hjt:j<m
        ·obtain⟨t,ht⟩:∃ t,a.ts[j]? = some t:=⟨a.ts[j]'(by rw[HM.out];exact hjt),List.getElem?_eq_getElem (by rw[HM.out];exact hjt)⟩
         obtain⟨tb,tfo,tcap,htv,_,_,htbl,hce⟩:=(HROW.out.keep HX.out).get (i:=j) (x:=t.cells) (by simp [ht])
         simp only[List.length_map,HM.out,Value.slice.injEq,true_and] at htv
         obtain⟨rfl,rfl⟩:=htv
         have u0:=hce 0 _ rfl
         have u1:=hce 1 _ rfl
         have u2:=hce 2 _ rfl
         have u3:=hce 3 _ rfl
         simp only[Nat.add_zero] at u0
         have hxl:=HTX.out t (List.mem_of_getElem? ht)
         have HTS:=Lib.hid (take_any_succ badNt ht)
         obtain⟨cc,hcc⟩:∃ cc,(b1 || (a.ts.take j).any badNt)=cc:=⟨_,rfl⟩
         rw[hcc]
         have HCC:=Lib.hid hcc
         clear hce ht hcc
         cases cc with
         | true =>
           go_wp2_with fail
           go_roundw
           case rel=>exact⟨j+1,by omega,by go_num,by rw[HTS.out,<-Bool.or_assoc,HCC.out];rfl,Lib.hid (balloc HX.out _)⟩
           case measure=>simp [intOf];omega
         | false =>
           by_cases hx:t.x=[]
           ·have hbn:badNt t=false:=by unfold badNt;rw[hx];rfl
            have HBN:=Lib.hid hbn
            rw[hx] at u0
            clear hbn hx
            go_wp2_with fail
            go_roundw
            case rel=>exact⟨j+1,by omega,by go_num,by rw[HTS.out,<-Bool.or_assoc,HCC.out,HBN.out];rfl,Lib.hid (balloc HX.out _)⟩
            case measure=>simp [intOf];omega
           ·have he:=ba_empty hx
            have he2:t.x.isEmpty=false:=by
             cases hxx:t.x with
             | nil=>exact absurd hxx hx
             | cons _ _=>rfl
            have he3:(!t.x.isEmpty)=true:=by rw[he2];rfl
            have hbn:badNt t = !isNameB t.x:=by unfold badNt;rw[decide_eq_true hx];rfl
            obtain⟨xb,hxb⟩:∃ xb,isNameB t.x=xb:=⟨_,rfl⟩
            rw[hxb] at hbn
            have hxx:(⟨t.x.toArray⟩:ByteArray).data.toList=t.x:=by simp
            have hnx:=HNA.out
            have hnx2:=fun W=>hnx W t.x hxl
            rw[hxb] at hnx2
            have HNX:=Lib.hid hnx2
            have HBN:=Lib.hid hbn
            clear hx hbn hxb hxx hnx hnx2
            go_wp2_with fail
            refine (HNX.out _).mono ?_
            rintro e w4 ⟨rfl,rfl⟩
            go_wp2_with fail
            go_roundw
            case rel=>exact⟨j+1,by omega,by go_num,by rw[HTS.out,<-Bool.or_assoc,HCC.out,HBN.out];cases xb<;>rfl,Lib.hid (balloc HX.out _)⟩
            case measure=>simp [intOf];omega
        ·obtain rfl:j=m:=by omega
         go_wp2_with fail
         go_roundw
         case rel =>
          refine⟨k+1,by omega,by go_num,?_,Lib.hid (HW.out.trans (HX.out.mono HW.out.size))⟩
          rw[List.take_of_length_le (by rw[HM.out];exact Nat.le_refl _),HST.out,<-Bool.or_assoc,HBB.out,HB1.out]
          unfold badNa
          rw[HRB.out,Bool.or_assoc]
         case measure=>simp [intOf];omega
    ·obtain rfl:k=n:=by omega
     go_wp2_with fail
     go_ret
     rw[List.take_of_length_le (by rw[HN.out];exact Nat.le_refl _)]
     exact⟨rfl,HW.out⟩
theorem Tryz.badTermEq (k n:Int) (t:List UInt8) (w:World):(binOp .neq 111 (.agg #[.int .i64 k,.int .i64 n,.string ⟨t.toArray⟩]) (.agg #[.int .i64 0,.int .i64 0,.string ⟨#[]⟩])).run Tryz.prog w=.ok (.bool (decide ((⟨k,n,t⟩:Vl)≠⟨0,0,[]⟩))) w:=by
 have:=neq_value ⟨k,n,t⟩ ⟨0,0,[]⟩ w
 rw[decide_not]
 exact this
set_option maxHeartbeats 2000000 in
set_option maxRecDepth 100000 in
theorem badTerm_any (w:World) (t:Trm) :
 Calls Tryz.prog 169 #[.agg t.cells.toArray] w fun e w'=>e=.returned (.bool (badTm t))/\Below w.heap.size w w':=by
 have hnot:∀ (x:Bool) (w:World),(Op.unary .not (.bool x)).run Tryz.prog w=.ok (.bool (!x)) w:=fun _ _=>rfl
 have hneq:=Tryz.badTermEq
 have hb0:Below w.heap.size w (w.alloc (.cells t.cells.toArray 113)):=balloc (Below.refl _ _) _
 have hb1:=fun c:Array Value=>balloc hb0 (.cells c 111)
 obtain⟨x,k,n,s⟩:=t
 unfold badTm Trm.cells
 by_cases hx:x=[]
 ·subst hx
  rw[if_pos rfl]
  have hv:=fun W=>valid_any k n ⟨s.toArray⟩ W
  have hss:(⟨s.toArray⟩:ByteArray).data.toList=s:=by simp
  rw[hss] at hv
  show Calls _ _ _ _ fun e w'=>e=.returned (.bool (!validB k n s))/\_
  generalize validB k n s=vb at *
  have HV:=Lib.hid hv
  have HB1:=Lib.hid hb1
  clear hv hss hb0 hb1
  go_enter Tryz.func169,Tryz.ntmps169
  go_wp2_with fail
  refine (HV.out _).mono ?_
  rintro e w1 ⟨rfl,rfl⟩
  go_wp2_with fail
  go_ret
  exact⟨rfl,HB1.out _⟩
 ·rw[if_neg hx]
  have he:=ba_empty hx
  have he2:x.isEmpty=false:=by
   cases hxx:x with
   | nil=>exact absurd hxx hx
   | cons _ _=>rfl
  have he3:(!x.isEmpty)=true:=by rw[he2];rfl
  have HB0:=Lib.hid hb0
  show Calls _ _ _ _ fun e w'=>e=.returned (.bool (decide ((⟨k,n,s⟩:Vl)≠⟨0,0,[]⟩)))/\_
  clear hb0 hb1 hx
  go_enter Tryz.func169,Tryz.ntmps169
  go_wp2_with fail
  go_ret
  exact⟨by simp,HB0.out⟩
set_option maxHeartbeats 2000000 in
set_option maxRecDepth 100000 in
theorem badTerms_any (w:World) (a:Atm) (tv:Value) (h:RowAt w tv 4 (a.ts.map Trm.cells)) :
 Calls Tryz.prog 167 #[.agg #[.string ⟨a.rel.toArray⟩,tv]] w fun e w'=>e=.returned (.bool (a.ts.any badTm))/\Below w.heap.size w w':=by
 have hb0:Below w.heap.size w (w.alloc (.cells #[.string ⟨a.rel.toArray⟩,tv] 105)):=balloc (Below.refl _ _) _
 have hc:=containsN_Trm 169 #[] (enters_of Tryz.func169 (by kernel_rfl) rfl) (atP a.ts badTm) (w.alloc (.cells #[.string ⟨a.rel.toArray⟩,tv] 105)) tv (a.ts.map Trm.cells) (h.keep hb0) (trm_len _) (fun W k x _ hx=>by
  rw[List.getElem?_map] at hx
  cases hs:a.ts[k]? with
  | none=>rw[hs] at hx;simp at hx
  | some s =>
    rw[hs] at hx
    simp only[Option.map_some,Option.some.injEq] at hx
    subst hx
    rw[atP_some hs]
    exact badTerm_any W s)
 rw[range_any a.ts _ (List.length_map _)] at hc
 obtain⟨ta,tc,rfl,_,_⟩:=h.form
 have HC:=Lib.hid hc
 have HB0:=Lib.hid hb0
 clear h hc hb0
 generalize (a.ts.map Trm.cells).length=m at *
 generalize a.ts.any badTm=R at *
 go_enter Tryz.func167,Tryz.ntmps167
 go_wp2_with fail
 refine HC.out.mono ?_
 rintro e w2 ⟨rfl,hb⟩
 have HB:=Lib.hid (HB0.out.trans (hb.mono (by simp)))
 clear hb
 go_wp2_with fail
 go_ret
 exact⟨rfl,HB.out⟩
set_option maxHeartbeats 2000000 in
set_option maxRecDepth 100000 in
theorem wide_any (w:World) (a:Atm) (tv:Value) (h:RowAt w tv 4 (a.ts.map Trm.cells)) :
 Calls Tryz.prog 170 #[.agg #[.string ⟨a.rel.toArray⟩,tv]] w fun e w'=>e=.returned (.bool (wideA a))/\Below w.heap.size w w':=by
 obtain⟨ta,tc,rfl,_,_⟩:=h.form
 unfold wideA
 clear h
 simp only[List.length_map]
 generalize a.ts.length=n
 have HB0:=Lib.hid (show Below w.heap.size w (w.alloc (.cells #[.string ⟨a.rel.toArray⟩,.slice ta n tc] 105)) from balloc (Below.refl _ _) _)
 go_enter Tryz.func170,Tryz.ntmps170
 go_wp2_with fail
 go_ret
 exact⟨by simp;omega,HB0.out⟩
set_option maxHeartbeats 2000000 in
set_option maxRecDepth 100000 in
theorem shapeAny_any (g:Nat) (eg:∀ args w,(callFunc g args).run Tryz.prog w=.ok (.enter g args) w) (p:Atm->Bool) (w:World) (b:Nat) (nm hv av:Value) (al:List Atm) (hb:Blk w b 50 #[nm,hv,av]) (h:AtomsAt w av al)
 (hf:∀ (W:World) (a:Atm) (tv:Value),RowAt W tv 4 (a.ts.map Trm.cells)->Calls Tryz.prog g #[.agg #[.string ⟨a.rel.toArray⟩,tv]] W fun e W'=>e=.returned (.bool (p a))/\Below W.heap.size W W') :
 Calls Tryz.prog 164 #[.func (.func g) #[] #[],.pointer (some ⟨b,0,none⟩)] w fun e w'=>e=.returned (.bool (al.any p))/\Below w.heap.size w w':=by
 obtain⟨rows,h1,h2⟩:=h
 have hc:=containsN_Atm g #[] eg (atP al p) w av rows h1 (fun x hx=>by
  obtain⟨a,_,tv,rfl,_⟩:=all2_mem h2 x hx
  rfl) (fun W k x hW hx=>by
  obtain⟨a,ha,tv,rfl,h3,h4⟩:∃ a,al[k]? = some a/\AtmC w x a:=by
   have hk:k<al.length:=by rw[<-h2.length];exact (List.getElem?_eq_some_iff.1 hx).1
   obtain⟨row,hr,hc⟩:=h2.get (List.getElem?_eq_getElem hk)
   rw[hx] at hr
   obtain rfl:=Option.some.inj hr
   exact⟨_,List.getElem?_eq_getElem hk,hc⟩
  rw[atP_some ha]
  exact hf W a tv (h3.keep hW))
 rw[range_any al _ h2.length] at hc
 have x2:=hb.cell 2
 have xl:=hb.lt
 simp only[List.getElem?_toArray,List.getElem?_cons_zero,List.getElem?_cons_succ] at x2
 obtain⟨ad,cap,rfl,_,_⟩:=h1.form
 have HC:=Lib.hid hc
 clear hc hb h1 h2 hf
 generalize al.any p=RES at *
 go_enter Tryz.func164,Tryz.ntmps164
 go_wp2_with fail
 refine HC.out.mono ?_
 rintro e w2 ⟨rfl,hb2⟩
 have HB2:=Lib.hid hb2
 clear hb2
 go_wp2_with fail
 go_ret
 exact⟨rfl,HB2.out⟩
theorem any_thin {al:List Atm} (h:al.any wideA=false):∀ a∈al,a.ts.length<=5:=fun a ha=>by
 have:=List.any_eq_false.1 h a ha
 unfold wideA at this
 simpa using this
set_option maxHeartbeats 16000000 in
set_option maxRecDepth 100000 in
theorem shape_any (w:World) (nm:ByteArray) (hv av:Value) (hd:List (List UInt8)) (al:List Atm) (hh:StrsAt w hv hd) (h:AtomsAt w av al) (hn:nm.size<=140737488355328) (hl:∀ s∈hd,s.length<=140737488355328) (ha:LensA al) :
 Calls Tryz.prog 85 #[.agg #[.string nm,hv,av]] w fun e w'=>e=.returned (.int .i64 (chkQ ⟨nm.data.toList,hd,al⟩))/\Below w.heap.size w w':=by
 have hmf:∀ (fn:Fn) (first cap:Array Value) (w:World),(Instr.makeFunc fn first cap).run Tryz.prog w=.ok (.func fn first cap) w:=fun _ _ _ _=>rfl
 have hnot:∀ (x:Bool) (w:World),(Op.unary .not (.bool x)).run Tryz.prog w=.ok (.bool (!x)) w:=fun _ _=>rfl
 obtain⟨w0,hw0⟩:∃ w0,w.alloc (.cells #[.string nm,hv,av] 50)=w0:=⟨_,rfl⟩
 have hbox:=Blk.new w 50 #[.string nm,hv,av]
 have hb0:Below w.heap.size w (w.alloc (.cells #[.string nm,hv,av] 50)):=balloc (Below.refl _ _) _
 have hwl:w.heap.size<w0.heap.size:=by rw[<-hw0];simp
 rw[hw0] at hbox hb0
 have HN:=Lib.hid (fun (W:World) (hW:Below w0.heap.size w0 W)=>badName_any W nm hv av hd al (hh.keep (hb0.trans (hW.mono hb0.size))) (h.keep (hb0.trans (hW.mono hb0.size))) hn hl ha)
 have HT:=Lib.hid (fun (W:World) (hW:Below w0.heap.size w0 W)=>shapeAny_any 167 (enters_of Tryz.func167 (by kernel_rfl) rfl) (fun a=>a.ts.any badTm) W w.heap.size _ _ _ al (hbox.below hW hwl) (h.keep (hb0.trans (hW.mono hb0.size))) (fun W a tv hr=>badTerms_any W a tv hr))
 have HV:=Lib.hid (fun (W:World) (hW:Below w0.heap.size w0 W)=>shapeAny_any 170 (enters_of Tryz.func170 (by kernel_rfl) rfl) wideA W w.heap.size _ _ _ al (hbox.below hW hwl) (h.keep (hb0.trans (hW.mono hb0.size))) (fun W a tv hr=>wide_any W a tv hr))
 have HD:=Lib.hid (fun (W:World) (hW:Below w0.heap.size w0 W)=>doubled_any W hv hd (hh.keep (hb0.trans (hW.mono hb0.size))))
 have HU:=Lib.hid (fun (W:World) (hW:Below w0.heap.size w0 W) (h1:al.length<=6) (h2:al.any wideA=false)=>unsafeVar_any W nm hv av hd al (hh.keep (hb0.trans (hW.mono hb0.size))) (h.keep (hb0.trans (hW.mono hb0.size))) (by omega) (by have:=tsum_thin al (any_thin h2);omega))
 have HX:=Lib.hid (fun (W:World) (hW:Below w0.heap.size w0 W)=>hbox.below hW hwl)
 obtain⟨ad,cap,rfl,_,_⟩:=h.form
 obtain⟨hda,hdc,rfl,_,_⟩:=hh.form
 obtain⟨Q,hQ⟩:∃ Q,Q=chkQ ⟨nm.data.toList,hd,al⟩:=⟨_,rfl⟩
 rw[<-hQ]
 unfold chkQ at hQ
 simp only at hQ
 have HW0:=Lib.hid hw0
 have HB0:=Lib.hid hb0
 have x0:=hbox.cell 0
 have x1:=hbox.cell 1
 have x2:=hbox.cell 2
 simp only[List.getElem?_toArray,List.getElem?_cons_zero,List.getElem?_cons_succ] at x0 x1 x2
 clear h hh hn hl ha hbox hb0 hw0
 generalize badNq ⟨nm.data.toList,hd,al⟩=b1 at *
 generalize (al.any fun a=>a.ts.any badTm)=b2 at *
 generalize al.any wideA=b3 at *
 generalize dupI hd=d1 at *
 generalize lackI (qVars al) hd=d2 at *
 generalize al.length=n at *
 generalize hd.length=hn at *
 have HQ:=Lib.hid hQ
 clear hQ
 go_enter Tryz.func85,Tryz.ntmps85
 go_wp2_with fail
 rw[HW0.out]
 refine (HN.out _ (Below.refl _ _)).mono ?_
 rintro e w1 ⟨rfl,hb1⟩
 have H1:=Lib.hid hb1
 have BB:=Lib.hid (HB0.out.trans (hb1.mono HB0.out.size))
 have hq:=HQ.out
 cases b1 with
 | true =>
   rw[if_pos rfl] at hq
   have HQ:=Lib.hid hq
   clear hq hb1
   go_wp2_with fail
   go_ret
   exact⟨by rw[HQ.out];rfl,BB.out⟩
 | false =>
 rw[if_neg (by decide)] at hq
 have HQ:=Lib.hid hq
 clear hq hb1
 go_wp2_with fail
 refine (HT.out _ H1.out).mono ?_
 rintro e w2 ⟨rfl,hb2⟩
 have H2:=Lib.hid (H1.out.trans (hb2.mono H1.out.size))
 have BB:=Lib.hid (HB0.out.trans (H2.out.mono HB0.out.size))
 have hx:=HX.out _ H2.out
 have x0:=hx.cell 0
 have x1:=hx.cell 1
 have x2:=hx.cell 2
 have xl:=hx.lt
 simp only[List.getElem?_toArray,List.getElem?_cons_zero,List.getElem?_cons_succ] at x0 x1 x2
 have hq:=HQ.out
 cases b2 with
 | true =>
   rw[if_pos rfl] at hq
   have HQ:=Lib.hid hq
   clear hq hb2 hx
   go_wp2_with fail
   go_ret
   exact⟨by rw[HQ.out];rfl,BB.out⟩
 | false =>
 rw[if_neg (by decide)] at hq
 have HQ:=Lib.hid hq
 clear hq hb2 hx
 by_cases hz:n=0
 ·have hq:=HQ.out
  rw[if_pos (.inl hz)] at hq
  have HQ:=Lib.hid hq
  clear hq
  subst hz
  go_wp2_with fail
  go_ret
  exact⟨by rw[HQ.out];rfl,BB.out⟩
 by_cases h6:6<n
 ·have hq:=HQ.out
  rw[if_pos (.inr h6)] at hq
  have HQ:=Lib.hid hq
  have hd:(6:Int)<(n:Int):=by omega
  have hz2:¬ ((n:Int)=0):=by omega
  clear hq
  go_wp2_with fail
  go_ret
  exact⟨by rw[HQ.out];rfl,BB.out⟩
 have hq:=HQ.out
 rw[if_neg (by omega)] at hq
 have HQ:=Lib.hid hq
 have hd1:¬ ((6:Int)<(n:Int)):=by omega
 have hd2:(n:Int)<=6:=by omega
 have hz2:¬ ((n:Int)=0):=by omega
 have hz3:((n:Int) == 0)=false:=by simp;omega
 have hd3:¬ 6<n:=h6
 clear hq
 go_wp2_with fail
 refine (HV.out _ H2.out).mono ?_
 rintro e w3 ⟨rfl,hb3⟩
 have H3:=Lib.hid (H2.out.trans (hb3.mono H2.out.size))
 have BB:=Lib.hid (HB0.out.trans (H3.out.mono HB0.out.size))
 have hx:=HX.out _ H3.out
 have x0:=hx.cell 0
 have x1:=hx.cell 1
 have x2:=hx.cell 2
 have xl:=hx.lt
 simp only[List.getElem?_toArray,List.getElem?_cons_zero,List.getElem?_cons_succ] at x0 x1 x2
 have hq:=HQ.out
 cases b3 with
 | true =>
   rw[if_pos rfl] at hq
   have HQ:=Lib.hid hq
   clear hq hb3 hx
   go_wp2_with fail
   go_ret
   exact⟨by rw[HQ.out];rfl,BB.out⟩
 | false =>
 rw[if_neg (by decide)] at hq
 have HQ:=Lib.hid hq
 clear hq hb3 hx
 go_wp2_with fail
 refine (HD.out _ H3.out).mono ?_
 rintro e w4 ⟨rfl,rfl⟩
 by_cases hd0:0<=d1
 ·have hq:=HQ.out
  rw[if_pos hd0] at hq
  have HQ:=Lib.hid hq
  clear hq
  go_wp2_with fail
  go_ret
  exact⟨by rw[HQ.out];rfl,BB.out⟩
 have hq:=HQ.out
 rw[if_neg hd0] at hq
 have HQ:=Lib.hid hq
 clear hq
 go_wp2_with fail
 refine (HU.out _ H3.out (by omega) (by trivial)).mono ?_
 rintro e w5 ⟨rfl,hb5⟩
 have H5:=Lib.hid (H3.out.trans (hb5.mono H3.out.size))
 have BB:=Lib.hid (HB0.out.trans (H5.out.mono HB0.out.size))
 clear hb5
 by_cases hu0:0<=d2
 ·have hq:=HQ.out
  rw[if_pos hu0] at hq
  have HQ:=Lib.hid hq
  clear hq
  go_wp2_with fail
  go_ret
  exact⟨by rw[HQ.out];rfl,BB.out⟩
 have hq:=HQ.out
 rw[if_neg hu0] at hq
 have HQ:=Lib.hid hq
 clear hq
 go_wp2_with fail
 go_ret
 exact⟨by rw[HQ.out];rfl,BB.out⟩
set_option maxHeartbeats 16000000 in
set_option maxRecDepth 100000 in
theorem qshow_good (w:World) (nm:ByteArray) (hv av:Value) (hd:List (List UInt8)) (al:List Atm) (hh:StrsAt w hv hd) (h:AtomsAt w av al) (hk:RightQ ⟨nm.data.toList,hd,al⟩) (hr:RangeQ ⟨nm.data.toList,hd,al⟩) (hg:Glob w) :
 Calls Tryz.prog 69 #[.agg #[.string nm,hv,av]] w fun e w'=>e=.returned (.string ⟨(qT ⟨nm.data.toList,hd,al⟩).toArray⟩)/\Below w.heap.size w w':=by
 obtain⟨i0,hi0,hz0,hz1,hz2⟩:=info_parts Tryz.infoTx9
 have hb0:Below w.heap.size w (w.alloc (.cells #[.string nm,hv,av] 50)):=balloc (Below.refl _ _) _
 have hbx:=Blk.new w 50 #[.string nm,hv,av]
 have hnl:=(name_len16 hk.name).2
 have hnz:nm.size<=16:=hnl
 have hch:=shape_any _ nm hv av hd al (hh.keep hb0) (h.keep hb0) (by omega) (fun s hs=>by have:=(name_len16 (hk.head s hs)).2;omega) (fun a ha=>⟨by have:=(name_len16 (hk.rel a ha)).2;omega,fun t ht=>by
  by_cases hx:t.x=[]
  ·rw[hx];simp
  ·have:=(name_len16 (hk.var a ha t ht hx).1).2;omega⟩)
 rw[right_chkQ hk] at hch
 have hql:=qT_len hk hr
 have hrl:∀ a∈al,a.rel.length<=16/\a.ts.length<=5/\(Lib.join (a.ts.map tmT) [44,32]).length<=1300:=fun a ha=>⟨(name_len16 (hk.rel a ha)).2,hk.thin a ha,(atT_len hk hr a ha).1⟩
 have hvl:∀ a∈al,∀ t∈a.ts,-9223372036854775808<=t.n/\t.n<=9223372036854775807:=hr
 have hfew:al.length<=6:=hk.few
 simp only[List.map_id] at hql
 obtain⟨_,_,hj1,hj2⟩:=hql
 have hres:qT ⟨nm.data.toList,hd,al⟩=nm.data.toList++40::(Lib.join hd [44,32]++41::32::58::45::32::Lib.join (al.map atT) [44,32]):=by
  unfold qT
  simp only[List.map_id]
 rw[hres]
 have HH:=Lib.hid hh
 have HR:=Lib.hid h
 have HG:=Lib.hid hg
 have HJ1:=Lib.hid hj1
 have HJ2:=Lib.hid hj2
 have HRL:=Lib.hid hrl
 have HVL:=Lib.hid hvl
 have HC:=Lib.hid hch
 have HB0:=Lib.hid hb0
 have HBX:=Lib.hid hbx
 obtain⟨hda,hdc,rfl,hhc,hhm⟩:=hh.form
 obtain⟨ad,cap,rfl,hnc,hcm⟩:=h.form
 unfold maxLen at hcm
 have hr0:=rowG_zero atT al
 have HRL0:=Lib.hid (rowG_len atT al)
 have HRS:=Lib.hid (fun k a=>rowG_set atT (cs:=al) (k:=k) (c:=a))
 have HRA:=Lib.hid (rowG_all atT al)
 clear h hh hg hj1 hj2 hrl hvl hch hb0 hbx hres hk hr hnl
 generalize hHN:hd.length=hn at *
 have HHN:=Lib.hid hHN
 generalize hN:al.length=n at *
 have HN:=Lib.hid hN
 have HR0:=Lib.hid hr0
 clear hN hHN hr0
 go_enter Tryz.func69,Tryz.ntmps69
 go_wp2_with fail
 refine HC.out.mono ?_
 rintro e w2 ⟨rfl,hb2⟩
 have HB2:=Lib.hid (HB0.out.trans (hb2.mono (by simp)))
 have HBX2:=Lib.hid (HBX.out.below hb2 (by simp))
 have x2:=HBX2.out.cell 2
 simp only[List.getElem?_toArray,List.getElem?_cons_zero,List.getElem?_cons_succ] at x2
 have hxl:=HBX2.out.lt
 clear hb2 HC
 go_wp2_with (at_make;refine wpList_make_full _ rfl _ _ 28 rfl w.heap.size 9 i0 (.string ⟨#[]⟩) 1 Tryz.underlying28 hi0 hz0 hz1 _ _ _ _ n rfl rfl rfl rfl ?b2 ?b3 ?b4 ?_)
 case b2=>rw[hz2];omega
 case b3=>unfold maxLen;omega
 case b4=>exact HB2.out.size
 intro w5 hown5 hgrow5
 rw[HR0.out] at hown5
 have HO5:=Lib.hid hown5
 have hb5:Below w2.heap.size w2 w5:=Below.grown (Below.refl _ _) hgrow5 (Nat.le_refl _) (fun q hq=>by cases hq)
 have HB5:=Lib.hid hb5
 have HBX5:=Lib.hid (HBX2.out.below hb5 HBX2.out.lt)
 have x2:=HBX5.out.cell 2
 simp only[List.getElem?_toArray,List.getElem?_cons_zero,List.getElem?_cons_succ] at x2
 have hxl:=HBX5.out.lt
 have hw2:=HB2.out.size
 have HW2:=Lib.hid hw2
 generalize hgz:w2.heap.size=g at *
 have HGZ:=Lib.hid hgz
 clear hown5 hgrow5 hgz hb5
 go_wp2_with fail
 go_loopw [19] (fun i wr=>∃ k:Nat,k<=n/\i=.int .i64 k/\Hid (wr.ownsRow w.heap.size 9 1 (.slice (some ⟨g,0,none⟩) n n) n ((rowG atT al k).map strC).flatten)/\Hid (Below g w2 wr)) (fun i _=>n - (intOf i).toNat)
 case atStart=>exact⟨0,Nat.zero_le _,rfl,HO5,HB5⟩
 case round =>
  obtain⟨k,hk,rfl,OW,BG⟩:=hrel
  obtain⟨wo,rfl⟩:∃ wo:World,wo=wr:=⟨_,rfl⟩
  have hbw:Below w.heap.size w wo:=HB2.out.trans (BG.out.mono HW2.out)
  have BW:=Lib.hid hbw
  clear hbw
  by_cases hkn:k<n
  ·obtain⟨a,ha⟩:∃ a,al[k]? = some a:=⟨al[k]'(by rw[HN.out];exact hkn),List.getElem?_eq_getElem (by rw[HN.out];exact hkn)⟩
   obtain⟨tb,tfo,tcap,tv,htv,_,_,htbl,t0,t1,hrow,hal⟩:=(AtomsAt.keep HR.out BW.out).get ha
   simp only[HN.out,Value.slice.injEq,true_and] at htv
   obtain⟨rfl,rfl⟩:=htv
   obtain⟨ta,tc,rfl,htc,htm⟩:=hrow.form
   unfold maxLen at htm
   obtain⟨hrl,hml,hjl⟩:=HRL.out a (List.mem_of_getElem? ha)
   have HVA:=Lib.hid (HVL.out a (List.mem_of_getElem? ha))
   have hset:=HRS.out k a ha
   have HSET:=Lib.hid hset
   have HJL:=Lib.hid hjl
   have hr1:=rowG_zero tmT a.ts
   have HRL1:=Lib.hid (rowG_len tmT a.ts)
   have HRS1:=Lib.hid (fun k t=>rowG_set tmT (cs:=a.ts) (k:=k) (c:=t))
   have HRA1:=Lib.hid (rowG_all tmT a.ts)
   rw[List.length_map] at *
   generalize hM:a.ts.length=m at *
   have HM:=Lib.hid hM
   have HR1:=Lib.hid hr1
   have HROW:=Lib.hid hrow
   have hab:=Blk.new wo 105 #[.string ⟨a.rel.toArray⟩,.slice ta m tc]
   have HAB:=Lib.hid hab
   clear hM hr1 hrow hal ha hset hjl hab
   go_wp2_with (at_make;refine wpList_make_full _ rfl _ _ 28 rfl wo.heap.size 9 i0 (.string ⟨#[]⟩) 1 Tryz.underlying28 hi0 hz0 hz1 _ _ _ _ m rfl rfl rfl rfl ?d2 ?d3 ?d4 ?_)
   case d2=>rw[hz2];omega
   case d3=>unfold maxLen;omega
   case d4=>simp
   intro w6 hown6 hgrow6
   rw[HR1.out] at hown6
   have hs1:(wo.alloc (.cells #[.string ⟨a.rel.toArray⟩,.slice ta m tc] 105)).heap.size=wo.heap.size+1:=by simp
   have hb6:Below (wo.alloc (.cells #[.string ⟨a.rel.toArray⟩,.slice ta m tc] 105)).heap.size (wo.alloc (.cells #[.string ⟨a.rel.toArray⟩,.slice ta m tc] 105)) w6:=Below.grown (Below.refl _ _) hgrow6 (Nat.le_refl _) (fun q hq=>by cases hq)
   have hb1:Below wo.heap.size wo (wo.alloc (.cells #[.string ⟨a.rel.toArray⟩,.slice ta m tc] 105)):=balloc (Below.refl _ _) _
   obtain⟨W1,hW1⟩:∃ W1,(wo.alloc (.cells #[.string ⟨a.rel.toArray⟩,.slice ta m tc] 105))=W1:=⟨_,rfl⟩
   rw[hW1] at hs1 hb6 hb1
   have hab:=HAB.out
   rw[hW1] at hab
   rw[hs1] at hb6
   have hg2:wo.heap.size<wo.heap.size+1:=Nat.lt_succ_self _
   have hgg:g<wo.heap.size:=(OW.out.lt g rfl).2
   generalize hge:wo.heap.size+1=g2 at *
   have HZ1:=Lib.hid hs1
   have HO6:=Lib.hid hown6
   have HB6:=Lib.hid hb6
   have HB1:=Lib.hid hb1
   have HAB1:=Lib.hid hab
   have hab6:=hab.below hb6 hg2
   have a0:=hab6.cell 0
   have a1:=hab6.cell 1
   have abl:=hab6.lt
   simp only[List.getElem?_toArray,List.getElem?_cons_zero,List.getElem?_cons_succ] at a0 a1
   clear hown6 hgrow6 hs1 hb6 hb1 hW1 hab hge hab6
   go_wp2_with fail
   go_loopw [31] (fun i wr=>∃ j:Nat,j<=m/\i=.int .i64 j/\Hid (wr.ownsRow wo.heap.size 9 1 (.slice (some ⟨g2,0,none⟩) m m) m ((rowG tmT a.ts j).map strC).flatten)/\Hid (Below g2 W1 wr)) (fun i _=>m - (intOf i).toNat)
   case atStart=>exact⟨0,Nat.zero_le _,rfl,HO6,HB6⟩
   case round =>
    obtain⟨j,hj,rfl,OI,BI⟩:=hrel
    obtain⟨wi,rfl⟩:∃ wi:World,wi=wr:=⟨_,rfl⟩
    have hbi:Below wo.heap.size wo wi:=HB1.out.trans (BI.out.mono (by omega))
    have HBI:=Lib.hid hbi
    by_cases hjt:j<m
    ·obtain⟨t,ht⟩:∃ t,a.ts[j]? = some t:=⟨a.ts[j]'(by rw[HM.out];exact hjt),List.getElem?_eq_getElem (by rw[HM.out];exact hjt)⟩
     obtain⟨tb,tfo,tcap,htv,_,_,htbl,hce⟩:=(HROW.out.keep hbi).get (i:=j) (x:=t.cells) (by simp [ht])
     simp only[List.length_map,HM.out,Value.slice.injEq,true_and] at htv
     obtain⟨rfl,rfl⟩:=htv
     have u0:=hce 0 _ rfl
     have u1:=hce 1 _ rfl
     have u2:=hce 2 _ rfl
     have u3:=hce 3 _ rfl
     simp only[Nat.add_zero] at u0
     obtain⟨n0,n1⟩:=HVA.out t (List.mem_of_getElem? ht)
     have HSJ:=Lib.hid (HRS1.out j t ht)
     obtain⟨⟨y,hy⟩,hyz,hgl⟩:=own_cell OI.out hjt (j:=0) (by decide)
     simp only[Nat.mul_one,Nat.add_zero] at hy hyz
     have hgw:g2≠wi.heap.size:=by omega
     have hgw2:¬ wi.heap.size=g2:=by omega
     have OA:=Lib.hid (fun (c:Array Value) (s:List UInt8)=>(MT.ofBelow (B:=0) (Ts:=[]) (balloc (Below.refl (wi.setCell ⟨g2,j,none⟩ (.string ⟨s.toArray⟩)).heap.size (wi.setCell ⟨g2,j,none⟩ (.string ⟨s.toArray⟩))) (.cells c 113))).ownsRow (own_setTextG (s:=s) OI.out (HRL1.out j) hjt).1 (by simp))
     have BA:=Lib.hid (fun (c:Array Value) (s:List UInt8)=>Below.allocG HZ1.out (Mod.ownG HZ1.out BI.out (own_setTextG (s:=s) OI.out (HRL1.out j) hjt).2 (Nat.le_refl _)) (.cells c 113))
     clear hce ht hbi
     by_cases hx:t.x=[]
     ·have htm1:tmT t=showR t.k t.n t.t:=by unfold tmT;rw[if_pos hx]
      have hsv:=fun W (hW:Glob W)=>show_any t.k t.n ⟨t.t.toArray⟩ W n0 n1 hW
      have htt:(⟨t.t.toArray⟩:ByteArray).data.toList=t.t:=by simp
      rw[htt,<-htm1] at hsv
      generalize tmT t=word at *
      have HSV:=Lib.hid hsv
      rw[hx] at u0
      have h2:=OA.out #[.string ⟨#[]⟩,.int .i64 t.k,.int .i64 t.n,.string ⟨t.t.toArray⟩] []
      have h3:=BA.out #[.string ⟨#[]⟩,.int .i64 t.k,.int .i64 t.n,.string ⟨t.t.toArray⟩] []
      have hgl:=HG.out.below (BW.out.trans ((HB1.out.trans (h3.mono (by omega))).mono BW.out.size))
      have H2:=Lib.hid h2
      have H3:=Lib.hid h3
      have HGL:=Lib.hid hgl
      clear hsv htt htm1 h2 h3 hgl
      go_wp2_with fail
      refine (HSV.out _ HGL.out).mono ?_
      rintro e w7 ⟨rfl,hb7⟩
      have o7:=(MT.ofBelow (B:=0) (Ts:=[]) hb7).ownsRow H2.out (by simp)
      obtain⟨⟨y7,hy7⟩,hyz7,hgl7⟩:=own_cell o7 hjt (j:=0) (by decide)
      simp only[Nat.mul_one,Nat.add_zero] at hy7 hyz7
      have O7:=Lib.hid o7
      have B7:=Lib.hid (H3.out.trans (hb7.mono (by simp;omega)))
      clear o7 hb7
      go_wp2_with fail
      go_roundw
      case rel =>
       have h8:=own_setTextG (s:=word) O7.out (by rw[List.length_set];exact HRL1.out j) hjt
       rw[List.set_set,HSJ.out] at h8
       exact⟨j+1,by omega,by go_num,Lib.hid h8.1,Lib.hid (Mod.ownG HZ1.out B7.out h8.2 (Nat.le_refl _))⟩
      case measure=>simp [intOf];omega
     ·have htm1:tmT t=t.x:=by unfold tmT;rw[if_neg hx]
      have he:=ba_empty hx
      have he2:t.x.isEmpty=false:=by
       cases hxx:t.x with
       | nil=>exact absurd hxx hx
       | cons _ _=>rfl
      have he3:(!t.x.isEmpty)=true:=by rw[he2];rfl
      have HTM:=Lib.hid htm1
      have HX:=Lib.hid hx
      clear htm1 hx
      go_wp2_with fail
      go_roundw
      case rel =>
       have h8:=OA.out #[.string ⟨t.x.toArray⟩,.int .i64 t.k,.int .i64 t.n,.string ⟨t.t.toArray⟩] t.x
       have hsj:=HSJ.out
       rw[HTM.out] at hsj
       rw[hsj] at h8
       exact⟨j+1,by omega,by go_num,Lib.hid h8,Lib.hid (BA.out _ t.x)⟩
      case measure=>simp [intOf];omega
    ·obtain rfl:j=m:=by omega
     have hst:=ownG_strs OI.out (HRL1.out j) (by omega)
     rw[HRA1.out] at hst
     have hjn:=join_any wi.drew _ _ ⟨#[44,32]⟩ (hst.keep (bdrew (Below.refl _ _))) (Nat.le_trans HJL.out (by decide))
     have hjn2:Calls Tryz.prog 149 #[.slice (some ⟨g2,0,none⟩) j j,.string ⟨#[44,32]⟩] wi.drew fun e w'=>e=.returned (.string ⟨(Lib.join (a.ts.map tmT) [44,32]).toArray⟩)/\Below wi.drew.heap.size wi.drew w':=hjn
     have hjl:=HJL.out
     have hcc:(ByteArray.mk a.rel.toArray++ByteArray.mk #[40])++ByteArray.mk (Lib.join (a.ts.map tmT) [44,32]).toArray++ByteArray.mk #[41]=⟨(atT a).toArray⟩:=by
      unfold atT
      apply ByteArray.ext
      simp
     have hrz:a.rel.length<=16:=hrl
     generalize Lib.join (a.ts.map tmT) [44,32]=J at *
     have HJ:=Lib.hid hjn2
     have HCC:=Lib.hid hcc
     have oo:=(MT.ofBelow (B:=0) (Ts:=[]) hbi).ownsRow OW.out (by simp)
     obtain⟨⟨y,hy⟩,hyz,hgl⟩:=own_cell oo hkn (j:=0) (by decide)
     simp only[Nat.mul_one,Nat.add_zero] at hy hyz
     have habi:=HAB1.out.below BI.out hg2
     have z0:=habi.cell 0
     have zl:=habi.lt
     simp only[List.getElem?_toArray,List.getElem?_cons_zero] at z0
     have OO:=Lib.hid oo
     have hl1:¬ 9223372036854775807<a.rel.length+1:=by omega
     have hl2:¬ 9223372036854775807<a.rel.length+1+J.length:=by omega
     have hl3:¬ 9223372036854775807<a.rel.length+1+J.length+1:=by omega
     have hdk:decide ((k:Int)<0)=false:=by simp
     have hdn:decide ((n:Int)<=(k:Int))=false:=by simp;omega
     clear hst hjn hjn2 hcc oo habi hbi
     go_wp2_with fail
     go_region_law (go_simp;go_at_call 149;refine HJ.out.mono ?_;rintro e w8 ⟨rfl,hb8⟩;have z8:=(hb8.cell (p:=⟨wo.heap.size,0,none⟩) zl).trans (show wi.drew.cell? ⟨wo.heap.size,0,none⟩=_ from z0);have y8:=(hb8.cell (p:=⟨g,k,none⟩) hgl).trans (show wi.drew.cell? ⟨g,k,none⟩=_ from hy);have f8:=(hb8.frozen (p:=⟨g,k,none⟩) hgl).trans (show wi.drew.frozen? ⟨g,k,none⟩=_ from hyz))
     all_goals
      have o8:=(MT.ofBelow (B:=0) (Ts:=[]) hb8).ownsRow ((MT.ofBelow (B:=0) (Ts:=[]) (bdrew (Below.refl wi.heap.size wi))).ownsRow OO.out (by simp)) (by simp)
      have O8:=Lib.hid o8
      have B8:=Lib.hid (BG.out.trans ((HBI.out.trans ((bdrew (Below.refl wi.heap.size wi)).trans hb8 |>.mono HBI.out.size)).mono (by omega)))
      clear o8 hb8
      go_wp2_with fail
      go_roundw
      case rel =>
       have h9:=own_setTextG (s:=atT a) O8.out (HRL0.out k) hkn
       rw[HSET.out] at h9
       refine⟨k+1,by omega,by go_num,Lib.hid ?_,Lib.hid ?_⟩
       ·rw[HCC.out]
        exact h9.1
       ·rw[HCC.out]
        exact Mod.ownG HGZ.out B8.out h9.2 (Nat.le_refl _)
      case measure=>simp [intOf];omega
  ·obtain rfl:k=n:=by omega
   have hst:=ownG_strs OW.out (HRL0.out k) (by omega)
   rw[HRA.out] at hst
   have hh:=HH.out
   have hj1:=HJ1.out
   have hj2:=HJ2.out
   have hxb:Blk wo w.heap.size 50 #[.string nm,.slice hda hn hdc,.slice ad k cap]:=by
    have:=BG.out
    have hz:=HGZ.out
    subst hz
    exact HBX2.out.below this HBX2.out.lt
   have x0:=hxb.cell 0
   have x1:=hxb.cell 1
   have hxl:=hxb.lt
   simp only[List.getElem?_toArray,List.getElem?_cons_zero,List.getElem?_cons_succ] at x0 x1
   obtain⟨J1,hJ1⟩:∃ J1,J1=Lib.join hd [44,32]:=⟨_,rfl⟩
   obtain⟨J2,hJ2⟩:∃ J2,J2=Lib.join (al.map atT) [44,32]:=⟨_,rfl⟩
   have hcc:nm++ByteArray.mk #[40]++ByteArray.mk J1.toArray++ByteArray.mk #[41,32,58,45,32]++ByteArray.mk J2.toArray=⟨(nm.data.toList++40::(Lib.join hd [44,32]++41::32::58::45::32::Lib.join (al.map atT) [44,32])).toArray⟩:=by
    rw[hJ1,hJ2]
    apply ByteArray.ext
    simp
   have hbW:=Below.refl wo.heap.size wo
   have HJA:Hid (∀ W,(W.cell? ⟨w.heap.size,0,none⟩=some (.string nm)/\W.cell? ⟨w.heap.size,1,none⟩=some (.slice hda hn hdc)/\Below wo.heap.size wo W)->Calls Tryz.prog 149 #[.slice hda hn hdc,.string ⟨#[44,32]⟩] W fun e w'=>e=.returned (.string ⟨(Lib.join hd [44,32]).toArray⟩)/\(w'.cell? ⟨w.heap.size,0,none⟩=some (.string nm)/\w'.cell? ⟨w.heap.size,1,none⟩=some (.slice hda hn hdc)/\Below wo.heap.size wo w')) :=
    Lib.hid fun W hW=>(join_any W _ hd ⟨#[44,32]⟩ (hh.keep (BW.out.trans (hW.2.2.mono BW.out.size))) (Nat.le_trans hj1 (by decide))).mono fun e w' he=>⟨he.1,(he.2.cell (p:=⟨w.heap.size,0,none⟩) (Nat.lt_of_lt_of_le hxl hW.2.2.size)).trans hW.1,(he.2.cell (p:=⟨w.heap.size,1,none⟩) (Nat.lt_of_lt_of_le hxl hW.2.2.size)).trans hW.2.1,hW.2.2.trans (he.2.mono hW.2.2.size)⟩
   have HJB:Hid (∀ W,(W.cell? ⟨w.heap.size,0,none⟩=some (.string nm)/\W.cell? ⟨w.heap.size,1,none⟩=some (.slice hda hn hdc)/\Below wo.heap.size wo W)->Calls Tryz.prog 149 #[.slice (some ⟨g,0,none⟩) k k,.string ⟨#[44,32]⟩] W fun e w'=>e=.returned (.string ⟨(Lib.join (al.map atT) [44,32]).toArray⟩)/\(w'.cell? ⟨w.heap.size,0,none⟩=some (.string nm)/\w'.cell? ⟨w.heap.size,1,none⟩=some (.slice hda hn hdc)/\Below wo.heap.size wo w')) :=
    Lib.hid fun W hW=>(join_any W _ (al.map atT) ⟨#[44,32]⟩ (hst.keep hW.2.2) (Nat.le_trans hj2 (by decide))).mono fun e w' he=>⟨he.1,(he.2.cell (p:=⟨w.heap.size,0,none⟩) (Nat.lt_of_lt_of_le hxl hW.2.2.size)).trans hW.1,(he.2.cell (p:=⟨w.heap.size,1,none⟩) (Nat.lt_of_lt_of_le hxl hW.2.2.size)).trans hW.2.1,hW.2.2.trans (he.2.mono hW.2.2.size)⟩
   have HCC:=Lib.hid hcc
   rw[<-hJ1] at HJA hj1
   rw[<-hJ2] at HJB hj2
   have hl1:¬ 9223372036854775807<nm.size+1:=by omega
   have hl2:¬ 9223372036854775807<nm.size+1+J1.length:=by omega
   have hl3:¬ 9223372036854775807<nm.size+1+J1.length+5:=by omega
   have hl4:¬ 9223372036854775807<nm.size+1+J1.length+5+J2.length:=by omega
   clear hst hh hj1 hj2 hxb hcc hJ1 hJ2
   go_wp2_with fail
   go_region_held3 (fun w'=>w'.cell? ⟨w.heap.size,0,none⟩=some (.string nm)/\w'.cell? ⟨w.heap.size,1,none⟩=some (.slice hda hn hdc)/\Below wo.heap.size wo w')
    (first | exact hK | (go_split_ands;refine⟨?_,?_,?_⟩<;>first | exact bdrew (by assumption) | assumption | go_keep))
    (first
      | (go_at_call 149;go_split_ands;with_reducible refine Calls.mono (HJA.out _ ⟨by assumption,by assumption,by assumption⟩) ?_;rintro e w' ⟨rfl,hK⟩)
      | (go_at_call 149;go_split_ands;with_reducible refine Calls.mono (HJB.out _ ⟨by assumption,by assumption,by assumption⟩) ?_;rintro e w' ⟨rfl,hK⟩))
   all_goals go_split_ands
   all_goals go_wp2_with fail
   all_goals (go_ret;exact⟨congrArg (fun x=>Ending.returned (Value.string x)) HCC.out,BW.out.trans (Below.mono (by assumption) BW.out.size)⟩)
theorem Tryz.zeroTermEq (k n:Int) (t:List UInt8) (w:World):(binOp .eql 111 (.agg #[.int .i64 k,.int .i64 n,.string ⟨t.toArray⟩]) (.agg #[.int .i64 0,.int .i64 0,.string ⟨#[]⟩])).run Tryz.prog w=.ok (.bool (decide ((⟨k,n,t⟩:Vl)=⟨0,0,[]⟩))) w:=eql_value ⟨k,n,t⟩ ⟨0,0,[]⟩ w
theorem idx_seen {l:List (List UInt8)} {s:List UInt8} {k:Nat} (h:l[k]? = some s) (hm:s∈l.take k):idxI l s<k:=by
 have hk:=(List.getElem?_eq_some_iff.1 h).1
 have h1:s∈l:=List.mem_of_mem_take hm
 unfold idxI
 rw[if_pos h1]
 have h2:l.idxOf s=(l.take k).idxOf s:=by
  conv=>lhs;rw[<-List.take_append_drop k l]
  rw[List.idxOf_append,if_pos hm]
 have h3:(l.take k).idxOf s<(l.take k).length:=List.idxOf_lt_length_of_mem hm
 rw[List.length_take] at h3
 omega
theorem lack_any (vs l:List (List UInt8)):decide (0<=lackI vs l)=l.any fun s => !decide (s∈vs):=by
 unfold lackI
 rw[idxP_any,List.any_map]
 congr 1
set_option maxHeartbeats 32000000 in
set_option maxRecDepth 100000 in
theorem refShape_any (w:World) (nm:ByteArray) (hv av:Value) (hd:List (List UInt8)) (al:List Atm) (hh:StrsAt w hv hd) (h:AtomsAt w av al) (hn:nm.size<=140737488355328) (hl:∀ s∈hd,s.length<=140737488355328) (ha:LensA al) :
 Calls Tryz.prog 49 #[.agg #[.string nm,hv,av]] w fun e w'=>e=.returned (.int .i64 (chkQ ⟨nm.data.toList,hd,al⟩))/\Below w.heap.size w w':=by
 have hnot:∀ (x:Bool) (w:World),(Op.unary .not (.bool x)).run Tryz.prog w=.ok (.bool (!x)) w:=fun _ _=>rfl
 have heql:=Tryz.zeroTermEq
 obtain⟨w0,hw0⟩:∃ w0,w.alloc (.cells #[.string nm,hv,av] 50)=w0:=⟨_,rfl⟩
 have hbox:=Blk.new w 50 #[.string nm,hv,av]
 have hb0:Below w.heap.size w (w.alloc (.cells #[.string nm,hv,av] 50)):=balloc (Below.refl _ _) _
 have hwl:w.heap.size<w0.heap.size:=by rw[<-hw0];simp
 rw[hw0] at hbox hb0
 have HH:=Lib.hid (hh.keep hb0)
 have HR:=Lib.hid (h.keep hb0)
 have HNM:=Lib.hid (fun W=>refName_any nm W (by omega))
 have HNA:=Lib.hid (fun W (s:List UInt8) (hs:s.length<=140737488355328)=>refName_any ⟨s.toArray⟩ W (by
  have e:(⟨s.toArray⟩:ByteArray).size=s.length:=by simp [ByteArray.size]
  omega))
 have HVD:=Lib.hid (fun W (t:Trm)=>refValid_any t.k t.n ⟨t.t.toArray⟩ W)
 have HAT:=Lib.hid (fun (W:World) (hW:Below w0.heap.size w0 W) (s:List UInt8)=>refAt_any W hv hd s (HH.out.keep hW))
 have HVR:=Lib.hid (fun (W:World) (hW:Below w0.heap.size w0 W) (h1:al.length<=6) (h2:al.any wideA=false)=>refVars_any W nm hv av al (HR.out.keep hW) (by omega) (by have:=tsum_thin al (any_thin h2);omega))
 have HVS:=Lib.hid (fun (h1:al.length<=6) (h2:al.any wideA=false)=>(show (qVars al).length<=30 from by have h3:=qVars_small ⟨[],[],al⟩;have h4:=tsum_thin al (any_thin h2);simp only at h3;omega))
 have HBX:=Lib.hid hbox
 have HL:=Lib.hid hl
 have HA:=Lib.hid ha
 have HX:=Lib.hid (fun (W:World) (hW:Below w0.heap.size w0 W)=>hbox.below hW hwl)
 obtain⟨ad,cap,rfl,hnc,hcm⟩:=h.form
 obtain⟨hda,hdc,rfl,hhc,hhm⟩:=hh.form
 unfold maxLen at hcm hhm
 have hhl:=hh.len
 obtain⟨Q,hQ⟩:∃ Q,Q=chkQ ⟨nm.data.toList,hd,al⟩:=⟨_,rfl⟩
 rw[<-hQ]
 have hQ2:Q=if ((!isNameB nm.data.toList || hd.any fun s => !isNameB s) || al.any badNa)=true then 72 else if (al.any fun a=>a.ts.any badTm)=true then 21 else if al.length=0∨6<al.length then 90 else if al.any wideA=true then 91 else if 0<=dupI hd then 92 else if 0<=lackI (qVars al) hd then 93 else 0:=hQ
 have hlk:=lack_any (qVars al) hd
 have hdp:dupG (hd.take 0) (hd.drop 0) 0=dupI hd:=rfl
 have HW0:=Lib.hid hw0
 have HB0:=Lib.hid hb0
 have x0:=hbox.cell 0
 have x1:=hbox.cell 1
 have x2:=hbox.cell 2
 simp only[List.getElem?_toArray,List.getElem?_cons_zero,List.getElem?_cons_succ] at x0 x1 x2
 clear h hh hn hl ha hbox hb0 hw0 hQ
 generalize isNameB nm.data.toList=bn at *
 generalize dupI hd=D1 at *
 generalize lackI (qVars al) hd=D2 at *
 have HQ:=Lib.hid hQ2
 have HLK:=Lib.hid hlk
 have HDP:=Lib.hid hdp
 clear hQ2 hlk hdp
 generalize hNN:al.length=n at *
 generalize hHN:hd.length=hn at *
 have HN:=Lib.hid hNN
 have HHN:=Lib.hid hHN
 clear hNN hHN
 go_enter Tryz.func49,Tryz.ntmps49
 go_wp2_with fail
 rw[HW0.out]
 refine (HNM.out _).mono ?_
 rintro e w1 ⟨rfl,rfl⟩
 go_wp2_with fail
 go_loop [3,4] (fun b i=>∃ k:Nat,k<=hn/\i=.int .i64 k/\b=.bool (!(!bn || (hd.take k).any fun s => !isNameB s))) (fun _ i=>hn - (intOf i).toNat)
 case atStart=>exact⟨0,Nat.zero_le _,rfl,by cases bn<;>rfl⟩
 case round =>
  obtain⟨k,hk,rfl,rfl⟩:=hrel
  by_cases hlt:k<hn
  ·obtain⟨s,hs⟩:∃ s,hd[k]? = some s:=⟨hd[k]'(by rw[HHN.out];exact hlt),List.getElem?_eq_getElem (by rw[HHN.out];exact hlt)⟩
   obtain⟨b,off,cap',hv',_,_,hbl,hce⟩:=HH.out.get hs
   rw[HHN.out] at hv'
   simp only[Value.slice.injEq,true_and] at hv'
   obtain⟨rfl,rfl⟩:=hv'
   have hnx:=HNA.out w0 s (HL.out s (List.mem_of_getElem? hs))
   have HST:=Lib.hid (take_any_succ (fun s:List UInt8 => !isNameB s) hs)
   obtain⟨sb,hsb⟩:∃ sb,isNameB s=sb:=⟨_,rfl⟩
   rw[show isNameB (⟨s.toArray⟩:ByteArray).data.toList=sb from hsb] at hnx
   have HNX:=Lib.hid hnx
   have HSB:=Lib.hid hsb
   obtain⟨cc,hcc⟩:∃ cc,(!bn || (hd.take k).any fun s => !isNameB s)=cc:=⟨_,rfl⟩
   rw[hcc]
   have HCC:=Lib.hid hcc
   have hdk:decide ((k:Int)<0)=false:=by simp
   have hdn:decide ((hn:Int)<=(k:Int))=false:=by simp;omega
   clear hs hsb hnx hcc
   cases cc with
   | true =>
     go_wp2_with fail
     go_round
     case rel=>exact⟨k+1,by omega,by go_num,by rw[HST.out,<-Bool.or_assoc,HCC.out];rfl⟩
     case measure=>simp [intOf];omega
   | false =>
     go_wp2_with fail
     refine HNX.out.mono ?_
     rintro e w2 ⟨rfl,rfl⟩
     go_wp2_with fail
     go_round
     case rel=>exact⟨k+1,by omega,by go_num,by rw[HST.out,<-Bool.or_assoc,HCC.out,HSB.out];cases sb<;>rfl⟩
     case measure=>simp [intOf];omega
  ·obtain rfl:k=hn:=by omega
   rw[List.take_of_length_le (by rw[HHN.out];exact Nat.le_refl _)]
   generalize (!bn || hd.any fun s => !isNameB s)=N0 at *
   go_wp2_with fail
   go_loopw [3,5,6,7] (fun b v u i wr=>∃ j:Nat,j<=n/\i=.int .i64 j/\b=.bool (!(N0 || (al.take j).any badNa))/\v=.bool (!((al.take j).any fun a=>a.ts.any badTm))/\u=.bool ((al.take j).any wideA)/\Hid (Below w0.heap.size w0 wr)) (fun _ _ _ i _=>n - (intOf i).toNat)
   case atStart=>exact⟨0,Nat.zero_le _,rfl,by simp,by simp,by simp,Lib.hid (Below.refl _ _)⟩
   case round =>
    obtain⟨j,hj,rfl,rfl,rfl,rfl,HW⟩:=hrel
    obtain⟨wo,rfl⟩:∃ wo:World,wo=wr:=⟨_,rfl⟩
    have hxo:=HX.out _ HW.out
    have x0:=hxo.cell 0
    have x1:=hxo.cell 1
    have x2:=hxo.cell 2
    have xl:=hxo.lt
    simp only[List.getElem?_toArray,List.getElem?_cons_zero,List.getElem?_cons_succ] at x0 x1 x2
    clear hxo
    by_cases hjn:j<n
    ·obtain⟨a,ha⟩:∃ a,al[j]? = some a:=⟨al[j]'(by rw[HN.out];exact hjn),List.getElem?_eq_getElem (by rw[HN.out];exact hjn)⟩
     obtain⟨b,off,cap',tv,hv',_,_,hbl,q0,q1,hrow,hal⟩:=(HR.out.keep HW.out).get ha
     rw[HN.out] at hv'
     simp only[Value.slice.injEq,true_and] at hv'
     obtain⟨rfl,rfl⟩:=hv'
     obtain⟨ta,tc,rfl,htc,htm⟩:=hrow.form
     unfold maxLen at htm
     obtain⟨hrl,htx⟩:=HA.out a (List.mem_of_getElem? ha)
     have HS1:=Lib.hid (take_any_succ badNa ha)
     have HS2:=Lib.hid (take_any_succ (fun a:Atm=>a.ts.any badTm) ha)
     have HS3:=Lib.hid (take_any_succ wideA ha)
     have HTX:=Lib.hid htx
     have hnr:=HNA.out wo a.rel hrl
     obtain⟨rb,hrb⟩:∃ rb,isNameB a.rel=rb:=⟨_,rfl⟩
     rw[show isNameB (⟨a.rel.toArray⟩:ByteArray).data.toList=rb from hrb] at hnr
     have HRB:=Lib.hid hrb
     have HNR:=Lib.hid hnr
     have hwa:wideA a=decide (5<a.ts.length):=rfl
     rw[List.length_map] at *
     generalize hM:a.ts.length=m at *
     have HM:=Lib.hid hM
     have HROW:=Lib.hid hrow
     have HWA:=Lib.hid hwa
     obtain⟨bb,hbb⟩:∃ bb,(N0 || (al.take j).any badNa)=bb:=⟨_,rfl⟩
     obtain⟨vv,hvv⟩:∃ vv,((al.take j).any fun a=>a.ts.any badTm)=vv:=⟨_,rfl⟩
     obtain⟨ww,hww⟩:∃ ww,(al.take j).any wideA=ww:=⟨_,rfl⟩
     rw[hbb,hvv,hww]
     have HBB:=Lib.hid hbb
     have HVV:=Lib.hid hvv
     have HWW:=Lib.hid hww
     obtain⟨b1,hb1⟩:∃ b1,b1=(bb || !rb):=⟨_,rfl⟩
     have HB1:=Lib.hid hb1
     have hdk:decide ((j:Int)<0)=false:=by simp
     have hdn:decide ((n:Int)<=(j:Int))=false:=by simp;omega
     clear ha hrow hal htx hM hbb hvv hww hrb hb1 hnr hwa
     rcases hww2:ww with _ | _
     all_goals
      have HW2:=Lib.hid hww2
      clear hww2
     ·by_cases h5:5<m
      ·have h5i:(5:Int)<(m:Int):=by omega
       have HW5:=Lib.hid (show wideA a=true by rw[HWA.out];simpa using h5)
       cases bb with
       | true =>
         go_wp2_with fail
         go_loopw [3,5,8] (fun b v i wr=>∃ p:Nat,p<=m/\i=.int .i64 p/\b=.bool (!(b1 || (a.ts.take p).any badNt))/\v=.bool (!(vv || (a.ts.take p).any badTm))/\Hid (Below wo.heap.size wo wr)) (fun _ _ i _=>m - (intOf i).toNat)
         case atStart=>exact⟨0,Nat.zero_le _,rfl,by rw[HB1.out];cases rb<;>rfl,by cases vv<;>rfl,Lib.hid (Below.refl _ _)⟩
         case round =>
          obtain⟨p,hp,rfl,rfl,rfl,HZ⟩:=hrel
          have hbz:=HW.out.trans (HZ.out.mono HW.out.size)
          have HBZ:=Lib.hid hbz
          have hxz:=HX.out _ hbz
          have x0:=hxz.cell 0
          have x1:=hxz.cell 1
          have x2:=hxz.cell 2
          have xl:=hxz.lt
          simp only[List.getElem?_toArray,List.getElem?_cons_zero,List.getElem?_cons_succ] at x0 x1 x2
          have g0:=(HZ.out.cell (p:=⟨b,off+j * 2,none⟩) hbl).trans q0
          have g1:=(HZ.out.cell (p:=⟨b,off+j * 2+1,none⟩) hbl).trans q1
          have hzl:=Nat.lt_of_lt_of_le hbl HZ.out.size
          clear hxz hbz
          by_cases hpt:p<m
          ·obtain⟨t,ht⟩:∃ t,a.ts[p]? = some t:=⟨a.ts[p]'(by rw[HM.out];exact hpt),List.getElem?_eq_getElem (by rw[HM.out];exact hpt)⟩
           obtain⟨tb,tfo,tcap,htv,_,_,htbl,hce⟩:=(HROW.out.keep HZ.out).get (i:=p) (x:=t.cells) (by simp [ht])
           simp only[List.length_map,HM.out,Value.slice.injEq,true_and] at htv
           obtain⟨rfl,rfl⟩:=htv
           have u0:=hce 0 _ rfl
           have u1:=hce 1 _ rfl
           have u2:=hce 2 _ rfl
           have u3:=hce 3 _ rfl
           simp only[Nat.add_zero] at u0
           have hxl:=HTX.out t (List.mem_of_getElem? ht)
           have HT1:=Lib.hid (take_any_succ badNt ht)
           have HT2:=Lib.hid (take_any_succ badTm ht)
           obtain⟨cc,hcc⟩:∃ cc,(b1 || (a.ts.take p).any badNt)=cc:=⟨_,rfl⟩
           obtain⟨dd,hdd⟩:∃ dd,(vv || (a.ts.take p).any badTm)=dd:=⟨_,rfl⟩
           rw[hcc,hdd]
           have HCC:=Lib.hid hcc
           have HDD:=Lib.hid hdd
           have hpk:decide ((p:Int)<0)=false:=by simp
           have hpn:decide ((m:Int)<=(p:Int))=false:=by simp;omega
           clear hce ht hcc hdd
           by_cases hx:t.x=[]
           ·have hbn:badNt t=false:=by unfold badNt;rw[hx];rfl
            obtain⟨vb,hvb⟩:∃ vb,validB t.k t.n t.t=vb:=⟨_,rfl⟩
            have hbt:badTm t = !vb:=by unfold badTm;rw[if_pos hx,hvb]
            have hvd:=fun W=>HVD.out W t
            rw[show validB t.k t.n (⟨t.t.toArray⟩:ByteArray).data.toList=vb from hvb] at hvd
            have HVT:=Lib.hid hvd
            have HBN:=Lib.hid hbn
            have HBT:=Lib.hid hbt
            rw[hx] at u0
            clear hbn hbt hvb hvd hx
            cases dd with
            | true =>
              go_wp2_with fail
              go_roundw
              case rel=>exact⟨p+1,by omega,by go_num,by rw[HT1.out,<-Bool.or_assoc,HCC.out,HBN.out,Bool.or_false],by rw[HT2.out,<-Bool.or_assoc,HDD.out];rfl,Lib.hid (balloc HZ.out _)⟩
              case measure=>simp [intOf];omega
            | false =>
              go_wp2_with fail
              refine (HVT.out _).mono ?_
              rintro e w4 ⟨rfl,hb4⟩
              have HZ4:=Lib.hid ((balloc HZ.out (.cells #[.string ⟨#[]⟩,.int .i64 t.k,.int .i64 t.n,.string ⟨t.t.toArray⟩] 113)).trans (hb4.mono (balloc HZ.out _).size))
              clear hb4
              go_wp2_with fail
              go_roundw
              case rel=>exact⟨p+1,by omega,by go_num,by rw[HT1.out,<-Bool.or_assoc,HCC.out,HBN.out,Bool.or_false],by rw[HT2.out,<-Bool.or_assoc,HDD.out,HBT.out];cases vb<;>rfl,HZ4⟩
              case measure=>simp [intOf];omega
           ·have he:=ba_empty hx
            have he2:t.x.isEmpty=false:=by
             cases hxx:t.x with
             | nil=>exact absurd hxx hx
             | cons _ _=>rfl
            have he3:(!t.x.isEmpty)=true:=by rw[he2];rfl
            obtain⟨xb,hxb⟩:∃ xb,isNameB t.x=xb:=⟨_,rfl⟩
            have hbn:badNt t = !xb:=by unfold badNt;rw[decide_eq_true hx,hxb];rfl
            have hbt:badTm t = !decide ((⟨t.k,t.n,t.t⟩:Vl)=⟨0,0,[]⟩):=by unfold badTm;rw[if_neg hx,<-decide_not];rfl
            have hnx2:=fun W=>HNA.out W t.x hxl
            rw[show isNameB (⟨t.x.toArray⟩:ByteArray).data.toList=xb from hxb] at hnx2
            have HNX:=Lib.hid hnx2
            have HBN:=Lib.hid hbn
            have HBT:=Lib.hid hbt
            clear hx hbn hxb hnx2 hbt
            cases cc with
            | true =>
              cases dd with
              | true =>
                go_wp2_with fail
                go_roundw
                case rel=>exact⟨p+1,by omega,by go_num,by rw[HT1.out,<-Bool.or_assoc,HCC.out];rfl,by rw[HT2.out,<-Bool.or_assoc,HDD.out];rfl,Lib.hid (balloc HZ.out _)⟩
                case measure=>simp [intOf];omega
              | false =>
                go_wp2_with fail
                go_roundw
                case rel=>exact⟨p+1,by omega,by go_num,by rw[HT1.out,<-Bool.or_assoc,HCC.out];rfl,by rw[HT2.out,<-Bool.or_assoc,HDD.out,HBT.out];simp,Lib.hid (balloc HZ.out _)⟩
                case measure=>simp [intOf];omega
            | false =>
              cases dd with
              | true =>
                go_wp2_with fail
                refine (HNX.out _).mono ?_
                rintro e w4 ⟨rfl,rfl⟩
                go_wp2_with fail
                go_roundw
                case rel=>exact⟨p+1,by omega,by go_num,by rw[HT1.out,<-Bool.or_assoc,HCC.out,HBN.out];cases xb<;>rfl,by rw[HT2.out,<-Bool.or_assoc,HDD.out];rfl,Lib.hid (balloc HZ.out _)⟩
                case measure=>simp [intOf];omega
              | false =>
                go_wp2_with fail
                refine (HNX.out _).mono ?_
                rintro e w4 ⟨rfl,rfl⟩
                go_wp2_with fail
                go_roundw
                case rel=>exact⟨p+1,by omega,by go_num,by rw[HT1.out,<-Bool.or_assoc,HCC.out,HBN.out];cases xb<;>rfl,by rw[HT2.out,<-Bool.or_assoc,HDD.out,HBT.out];simp,Lib.hid (balloc HZ.out _)⟩
                case measure=>simp [intOf];omega
          ·obtain rfl:p=m:=by omega
           go_wp2_with fail
           go_roundw
           case rel =>
            refine⟨j+1,by omega,by go_num,?_,?_,?_,HBZ⟩
            ·rw[List.take_of_length_le (by rw[HM.out];exact Nat.le_refl _),HS1.out,<-Bool.or_assoc,HBB.out,HB1.out]
             unfold badNa
             rw[HRB.out,Bool.or_assoc]
            ·rw[List.take_of_length_le (by rw[HM.out];exact Nat.le_refl _),HS2.out,HVV.out]
            ·rw[HS3.out,HWW.out,HW2.out,HW5.out]
             first | (simp;done) | (simp;omega)
           case measure=>simp [intOf];omega
       | false =>
         go_wp2_with fail
         refine HNR.out.mono ?_
         rintro e w3 ⟨rfl,rfl⟩
         go_wp2_with fail
         go_loopw [3,5,8] (fun b v i wr=>∃ p:Nat,p<=m/\i=.int .i64 p/\b=.bool (!(b1 || (a.ts.take p).any badNt))/\v=.bool (!(vv || (a.ts.take p).any badTm))/\Hid (Below wo.heap.size wo wr)) (fun _ _ i _=>m - (intOf i).toNat)
         case atStart=>exact⟨0,Nat.zero_le _,rfl,by rw[HB1.out];cases rb<;>rfl,by cases vv<;>rfl,Lib.hid (Below.refl _ _)⟩
         case round =>
          obtain⟨p,hp,rfl,rfl,rfl,HZ⟩:=hrel
          have hbz:=HW.out.trans (HZ.out.mono HW.out.size)
          have HBZ:=Lib.hid hbz
          have hxz:=HX.out _ hbz
          have x0:=hxz.cell 0
          have x1:=hxz.cell 1
          have x2:=hxz.cell 2
          have xl:=hxz.lt
          simp only[List.getElem?_toArray,List.getElem?_cons_zero,List.getElem?_cons_succ] at x0 x1 x2
          have g0:=(HZ.out.cell (p:=⟨b,off+j * 2,none⟩) hbl).trans q0
          have g1:=(HZ.out.cell (p:=⟨b,off+j * 2+1,none⟩) hbl).trans q1
          have hzl:=Nat.lt_of_lt_of_le hbl HZ.out.size
          clear hxz hbz
          by_cases hpt:p<m
          ·obtain⟨t,ht⟩:∃ t,a.ts[p]? = some t:=⟨a.ts[p]'(by rw[HM.out];exact hpt),List.getElem?_eq_getElem (by rw[HM.out];exact hpt)⟩
           obtain⟨tb,tfo,tcap,htv,_,_,htbl,hce⟩:=(HROW.out.keep HZ.out).get (i:=p) (x:=t.cells) (by simp [ht])
           simp only[List.length_map,HM.out,Value.slice.injEq,true_and] at htv
           obtain⟨rfl,rfl⟩:=htv
           have u0:=hce 0 _ rfl
           have u1:=hce 1 _ rfl
           have u2:=hce 2 _ rfl
           have u3:=hce 3 _ rfl
           simp only[Nat.add_zero] at u0
           have hxl:=HTX.out t (List.mem_of_getElem? ht)
           have HT1:=Lib.hid (take_any_succ badNt ht)
           have HT2:=Lib.hid (take_any_succ badTm ht)
           obtain⟨cc,hcc⟩:∃ cc,(b1 || (a.ts.take p).any badNt)=cc:=⟨_,rfl⟩
           obtain⟨dd,hdd⟩:∃ dd,(vv || (a.ts.take p).any badTm)=dd:=⟨_,rfl⟩
           rw[hcc,hdd]
           have HCC:=Lib.hid hcc
           have HDD:=Lib.hid hdd
           have hpk:decide ((p:Int)<0)=false:=by simp
           have hpn:decide ((m:Int)<=(p:Int))=false:=by simp;omega
           clear hce ht hcc hdd
           by_cases hx:t.x=[]
           ·have hbn:badNt t=false:=by unfold badNt;rw[hx];rfl
            obtain⟨vb,hvb⟩:∃ vb,validB t.k t.n t.t=vb:=⟨_,rfl⟩
            have hbt:badTm t = !vb:=by unfold badTm;rw[if_pos hx,hvb]
            have hvd:=fun W=>HVD.out W t
            rw[show validB t.k t.n (⟨t.t.toArray⟩:ByteArray).data.toList=vb from hvb] at hvd
            have HVT:=Lib.hid hvd
            have HBN:=Lib.hid hbn
            have HBT:=Lib.hid hbt
            rw[hx] at u0
            clear hbn hbt hvb hvd hx
            cases dd with
            | true =>
              go_wp2_with fail
              go_roundw
              case rel=>exact⟨p+1,by omega,by go_num,by rw[HT1.out,<-Bool.or_assoc,HCC.out,HBN.out,Bool.or_false],by rw[HT2.out,<-Bool.or_assoc,HDD.out];rfl,Lib.hid (balloc HZ.out _)⟩
              case measure=>simp [intOf];omega
            | false =>
              go_wp2_with fail
              refine (HVT.out _).mono ?_
              rintro e w4 ⟨rfl,hb4⟩
              have HZ4:=Lib.hid ((balloc HZ.out (.cells #[.string ⟨#[]⟩,.int .i64 t.k,.int .i64 t.n,.string ⟨t.t.toArray⟩] 113)).trans (hb4.mono (balloc HZ.out _).size))
              clear hb4
              go_wp2_with fail
              go_roundw
              case rel=>exact⟨p+1,by omega,by go_num,by rw[HT1.out,<-Bool.or_assoc,HCC.out,HBN.out,Bool.or_false],by rw[HT2.out,<-Bool.or_assoc,HDD.out,HBT.out];cases vb<;>rfl,HZ4⟩
              case measure=>simp [intOf];omega
           ·have he:=ba_empty hx
            have he2:t.x.isEmpty=false:=by
             cases hxx:t.x with
             | nil=>exact absurd hxx hx
             | cons _ _=>rfl
            have he3:(!t.x.isEmpty)=true:=by rw[he2];rfl
            obtain⟨xb,hxb⟩:∃ xb,isNameB t.x=xb:=⟨_,rfl⟩
            have hbn:badNt t = !xb:=by unfold badNt;rw[decide_eq_true hx,hxb];rfl
            have hbt:badTm t = !decide ((⟨t.k,t.n,t.t⟩:Vl)=⟨0,0,[]⟩):=by unfold badTm;rw[if_neg hx,<-decide_not];rfl
            have hnx2:=fun W=>HNA.out W t.x hxl
            rw[show isNameB (⟨t.x.toArray⟩:ByteArray).data.toList=xb from hxb] at hnx2
            have HNX:=Lib.hid hnx2
            have HBN:=Lib.hid hbn
            have HBT:=Lib.hid hbt
            clear hx hbn hxb hnx2 hbt
            cases cc with
            | true =>
              cases dd with
              | true =>
                go_wp2_with fail
                go_roundw
                case rel=>exact⟨p+1,by omega,by go_num,by rw[HT1.out,<-Bool.or_assoc,HCC.out];rfl,by rw[HT2.out,<-Bool.or_assoc,HDD.out];rfl,Lib.hid (balloc HZ.out _)⟩
                case measure=>simp [intOf];omega
              | false =>
                go_wp2_with fail
                go_roundw
                case rel=>exact⟨p+1,by omega,by go_num,by rw[HT1.out,<-Bool.or_assoc,HCC.out];rfl,by rw[HT2.out,<-Bool.or_assoc,HDD.out,HBT.out];simp,Lib.hid (balloc HZ.out _)⟩
                case measure=>simp [intOf];omega
            | false =>
              cases dd with
              | true =>
                go_wp2_with fail
                refine (HNX.out _).mono ?_
                rintro e w4 ⟨rfl,rfl⟩
                go_wp2_with fail
                go_roundw
                case rel=>exact⟨p+1,by omega,by go_num,by rw[HT1.out,<-Bool.or_assoc,HCC.out,HBN.out];cases xb<;>rfl,by rw[HT2.out,<-Bool.or_assoc,HDD.out];rfl,Lib.hid (balloc HZ.out _)⟩
                case measure=>simp [intOf];omega
              | false =>
                go_wp2_with fail
                refine (HNX.out _).mono ?_
                rintro e w4 ⟨rfl,rfl⟩
                go_wp2_with fail
                go_roundw
                case rel=>exact⟨p+1,by omega,by go_num,by rw[HT1.out,<-Bool.or_assoc,HCC.out,HBN.out];cases xb<;>rfl,by rw[HT2.out,<-Bool.or_assoc,HDD.out,HBT.out];simp,Lib.hid (balloc HZ.out _)⟩
                case measure=>simp [intOf];omega
          ·obtain rfl:p=m:=by omega
           go_wp2_with fail
           go_roundw
           case rel =>
            refine⟨j+1,by omega,by go_num,?_,?_,?_,HBZ⟩
            ·rw[List.take_of_length_le (by rw[HM.out];exact Nat.le_refl _),HS1.out,<-Bool.or_assoc,HBB.out,HB1.out]
             unfold badNa
             rw[HRB.out,Bool.or_assoc]
            ·rw[List.take_of_length_le (by rw[HM.out];exact Nat.le_refl _),HS2.out,HVV.out]
            ·rw[HS3.out,HWW.out,HW2.out,HW5.out]
             first | (simp;done) | (simp;omega)
           case measure=>simp [intOf];omega
      ·have h5i:¬ (5:Int)<(m:Int):=by omega
       have HW5:=Lib.hid (show wideA a=false by rw[HWA.out];simpa using h5)
       cases bb with
       | true =>
         go_wp2_with fail
         go_loopw [3,5,8] (fun b v i wr=>∃ p:Nat,p<=m/\i=.int .i64 p/\b=.bool (!(b1 || (a.ts.take p).any badNt))/\v=.bool (!(vv || (a.ts.take p).any badTm))/\Hid (Below wo.heap.size wo wr)) (fun _ _ i _=>m - (intOf i).toNat)
         case atStart=>exact⟨0,Nat.zero_le _,rfl,by rw[HB1.out];cases rb<;>rfl,by cases vv<;>rfl,Lib.hid (Below.refl _ _)⟩
         case round =>
          obtain⟨p,hp,rfl,rfl,rfl,HZ⟩:=hrel
          have hbz:=HW.out.trans (HZ.out.mono HW.out.size)
          have HBZ:=Lib.hid hbz
          have hxz:=HX.out _ hbz
          have x0:=hxz.cell 0
          have x1:=hxz.cell 1
          have x2:=hxz.cell 2
          have xl:=hxz.lt
          simp only[List.getElem?_toArray,List.getElem?_cons_zero,List.getElem?_cons_succ] at x0 x1 x2
          have g0:=(HZ.out.cell (p:=⟨b,off+j * 2,none⟩) hbl).trans q0
          have g1:=(HZ.out.cell (p:=⟨b,off+j * 2+1,none⟩) hbl).trans q1
          have hzl:=Nat.lt_of_lt_of_le hbl HZ.out.size
          clear hxz hbz
          by_cases hpt:p<m
          ·obtain⟨t,ht⟩:∃ t,a.ts[p]? = some t:=⟨a.ts[p]'(by rw[HM.out];exact hpt),List.getElem?_eq_getElem (by rw[HM.out];exact hpt)⟩
           obtain⟨tb,tfo,tcap,htv,_,_,htbl,hce⟩:=(HROW.out.keep HZ.out).get (i:=p) (x:=t.cells) (by simp [ht])
           simp only[List.length_map,HM.out,Value.slice.injEq,true_and] at htv
           obtain⟨rfl,rfl⟩:=htv
           have u0:=hce 0 _ rfl
           have u1:=hce 1 _ rfl
           have u2:=hce 2 _ rfl
           have u3:=hce 3 _ rfl
           simp only[Nat.add_zero] at u0
           have hxl:=HTX.out t (List.mem_of_getElem? ht)
           have HT1:=Lib.hid (take_any_succ badNt ht)
           have HT2:=Lib.hid (take_any_succ badTm ht)
           obtain⟨cc,hcc⟩:∃ cc,(b1 || (a.ts.take p).any badNt)=cc:=⟨_,rfl⟩
           obtain⟨dd,hdd⟩:∃ dd,(vv || (a.ts.take p).any badTm)=dd:=⟨_,rfl⟩
           rw[hcc,hdd]
           have HCC:=Lib.hid hcc
           have HDD:=Lib.hid hdd
           have hpk:decide ((p:Int)<0)=false:=by simp
           have hpn:decide ((m:Int)<=(p:Int))=false:=by simp;omega
           clear hce ht hcc hdd
           by_cases hx:t.x=[]
           ·have hbn:badNt t=false:=by unfold badNt;rw[hx];rfl
            obtain⟨vb,hvb⟩:∃ vb,validB t.k t.n t.t=vb:=⟨_,rfl⟩
            have hbt:badTm t = !vb:=by unfold badTm;rw[if_pos hx,hvb]
            have hvd:=fun W=>HVD.out W t
            rw[show validB t.k t.n (⟨t.t.toArray⟩:ByteArray).data.toList=vb from hvb] at hvd
            have HVT:=Lib.hid hvd
            have HBN:=Lib.hid hbn
            have HBT:=Lib.hid hbt
            rw[hx] at u0
            clear hbn hbt hvb hvd hx
            cases dd with
            | true =>
              go_wp2_with fail
              go_roundw
              case rel=>exact⟨p+1,by omega,by go_num,by rw[HT1.out,<-Bool.or_assoc,HCC.out,HBN.out,Bool.or_false],by rw[HT2.out,<-Bool.or_assoc,HDD.out];rfl,Lib.hid (balloc HZ.out _)⟩
              case measure=>simp [intOf];omega
            | false =>
              go_wp2_with fail
              refine (HVT.out _).mono ?_
              rintro e w4 ⟨rfl,hb4⟩
              have HZ4:=Lib.hid ((balloc HZ.out (.cells #[.string ⟨#[]⟩,.int .i64 t.k,.int .i64 t.n,.string ⟨t.t.toArray⟩] 113)).trans (hb4.mono (balloc HZ.out _).size))
              clear hb4
              go_wp2_with fail
              go_roundw
              case rel=>exact⟨p+1,by omega,by go_num,by rw[HT1.out,<-Bool.or_assoc,HCC.out,HBN.out,Bool.or_false],by rw[HT2.out,<-Bool.or_assoc,HDD.out,HBT.out];cases vb<;>rfl,HZ4⟩
              case measure=>simp [intOf];omega
           ·have he:=ba_empty hx
            have he2:t.x.isEmpty=false:=by
             cases hxx:t.x with
             | nil=>exact absurd hxx hx
             | cons _ _=>rfl
            have he3:(!t.x.isEmpty)=true:=by rw[he2];rfl
            obtain⟨xb,hxb⟩:∃ xb,isNameB t.x=xb:=⟨_,rfl⟩
            have hbn:badNt t = !xb:=by unfold badNt;rw[decide_eq_true hx,hxb];rfl
            have hbt:badTm t = !decide ((⟨t.k,t.n,t.t⟩:Vl)=⟨0,0,[]⟩):=by unfold badTm;rw[if_neg hx,<-decide_not];rfl
            have hnx2:=fun W=>HNA.out W t.x hxl
            rw[show isNameB (⟨t.x.toArray⟩:ByteArray).data.toList=xb from hxb] at hnx2
            have HNX:=Lib.hid hnx2
            have HBN:=Lib.hid hbn
            have HBT:=Lib.hid hbt
            clear hx hbn hxb hnx2 hbt
            cases cc with
            | true =>
              cases dd with
              | true =>
                go_wp2_with fail
                go_roundw
                case rel=>exact⟨p+1,by omega,by go_num,by rw[HT1.out,<-Bool.or_assoc,HCC.out];rfl,by rw[HT2.out,<-Bool.or_assoc,HDD.out];rfl,Lib.hid (balloc HZ.out _)⟩
                case measure=>simp [intOf];omega
              | false =>
                go_wp2_with fail
                go_roundw
                case rel=>exact⟨p+1,by omega,by go_num,by rw[HT1.out,<-Bool.or_assoc,HCC.out];rfl,by rw[HT2.out,<-Bool.or_assoc,HDD.out,HBT.out];simp,Lib.hid (balloc HZ.out _)⟩
                case measure=>simp [intOf];omega
            | false =>
              cases dd with
              | true =>
                go_wp2_with fail
                refine (HNX.out _).mono ?_
                rintro e w4 ⟨rfl,rfl⟩
                go_wp2_with fail
                go_roundw
                case rel=>exact⟨p+1,by omega,by go_num,by rw[HT1.out,<-Bool.or_assoc,HCC.out,HBN.out];cases xb<;>rfl,by rw[HT2.out,<-Bool.or_assoc,HDD.out];rfl,Lib.hid (balloc HZ.out _)⟩
                case measure=>simp [intOf];omega
              | false =>
                go_wp2_with fail
                refine (HNX.out _).mono ?_
                rintro e w4 ⟨rfl,rfl⟩
                go_wp2_with fail
                go_roundw
                case rel=>exact⟨p+1,by omega,by go_num,by rw[HT1.out,<-Bool.or_assoc,HCC.out,HBN.out];cases xb<;>rfl,by rw[HT2.out,<-Bool.or_assoc,HDD.out,HBT.out];simp,Lib.hid (balloc HZ.out _)⟩
                case measure=>simp [intOf];omega
          ·obtain rfl:p=m:=by omega
           go_wp2_with fail
           go_roundw
           case rel =>
            refine⟨j+1,by omega,by go_num,?_,?_,?_,HBZ⟩
            ·rw[List.take_of_length_le (by rw[HM.out];exact Nat.le_refl _),HS1.out,<-Bool.or_assoc,HBB.out,HB1.out]
             unfold badNa
             rw[HRB.out,Bool.or_assoc]
            ·rw[List.take_of_length_le (by rw[HM.out];exact Nat.le_refl _),HS2.out,HVV.out]
            ·rw[HS3.out,HWW.out,HW2.out,HW5.out]
             first | (simp;done) | (simp;omega)
           case measure=>simp [intOf];omega
       | false =>
         go_wp2_with fail
         refine HNR.out.mono ?_
         rintro e w3 ⟨rfl,rfl⟩
         go_wp2_with fail
         go_loopw [3,5,8] (fun b v i wr=>∃ p:Nat,p<=m/\i=.int .i64 p/\b=.bool (!(b1 || (a.ts.take p).any badNt))/\v=.bool (!(vv || (a.ts.take p).any badTm))/\Hid (Below wo.heap.size wo wr)) (fun _ _ i _=>m - (intOf i).toNat)
         case atStart=>exact⟨0,Nat.zero_le _,rfl,by rw[HB1.out];cases rb<;>rfl,by cases vv<;>rfl,Lib.hid (Below.refl _ _)⟩
         case round =>
          obtain⟨p,hp,rfl,rfl,rfl,HZ⟩:=hrel
          have hbz:=HW.out.trans (HZ.out.mono HW.out.size)
          have HBZ:=Lib.hid hbz
          have hxz:=HX.out _ hbz
          have x0:=hxz.cell 0
          have x1:=hxz.cell 1
          have x2:=hxz.cell 2
          have xl:=hxz.lt
          simp only[List.getElem?_toArray,List.getElem?_cons_zero,List.getElem?_cons_succ] at x0 x1 x2
          have g0:=(HZ.out.cell (p:=⟨b,off+j * 2,none⟩) hbl).trans q0
          have g1:=(HZ.out.cell (p:=⟨b,off+j * 2+1,none⟩) hbl).trans q1
          have hzl:=Nat.lt_of_lt_of_le hbl HZ.out.size
          clear hxz hbz
          by_cases hpt:p<m
          ·obtain⟨t,ht⟩:∃ t,a.ts[p]? = some t:=⟨a.ts[p]'(by rw[HM.out];exact hpt),List.getElem?_eq_getElem (by rw[HM.out];exact hpt)⟩
           obtain⟨tb,tfo,tcap,htv,_,_,htbl,hce⟩:=(HROW.out.keep HZ.out).get (i:=p) (x:=t.cells) (by simp [ht])
           simp only[List.length_map,HM.out,Value.slice.injEq,true_and] at htv
           obtain⟨rfl,rfl⟩:=htv
           have u0:=hce 0 _ rfl
           have u1:=hce 1 _ rfl
           have u2:=hce 2 _ rfl
           have u3:=hce 3 _ rfl
           simp only[Nat.add_zero] at u0
           have hxl:=HTX.out t (List.mem_of_getElem? ht)
           have HT1:=Lib.hid (take_any_succ badNt ht)
           have HT2:=Lib.hid (take_any_succ badTm ht)
           obtain⟨cc,hcc⟩:∃ cc,(b1 || (a.ts.take p).any badNt)=cc:=⟨_,rfl⟩
           obtain⟨dd,hdd⟩:∃ dd,(vv || (a.ts.take p).any badTm)=dd:=⟨_,rfl⟩
           rw[hcc,hdd]
           have HCC:=Lib.hid hcc
           have HDD:=Lib.hid hdd
           have hpk:decide ((p:Int)<0)=false:=by simp
           have hpn:decide ((m:Int)<=(p:Int))=false:=by simp;omega
           clear hce ht hcc hdd
           by_cases hx:t.x=[]
           ·have hbn:badNt t=false:=by unfold badNt;rw[hx];rfl
            obtain⟨vb,hvb⟩:∃ vb,validB t.k t.n t.t=vb:=⟨_,rfl⟩
            have hbt:badTm t = !vb:=by unfold badTm;rw[if_pos hx,hvb]
            have hvd:=fun W=>HVD.out W t
            rw[show validB t.k t.n (⟨t.t.toArray⟩:ByteArray).data.toList=vb from hvb] at hvd
            have HVT:=Lib.hid hvd
            have HBN:=Lib.hid hbn
            have HBT:=Lib.hid hbt
            rw[hx] at u0
            clear hbn hbt hvb hvd hx
            cases dd with
            | true =>
              go_wp2_with fail
              go_roundw
              case rel=>exact⟨p+1,by omega,by go_num,by rw[HT1.out,<-Bool.or_assoc,HCC.out,HBN.out,Bool.or_false],by rw[HT2.out,<-Bool.or_assoc,HDD.out];rfl,Lib.hid (balloc HZ.out _)⟩
              case measure=>simp [intOf];omega
            | false =>
              go_wp2_with fail
              refine (HVT.out _).mono ?_
              rintro e w4 ⟨rfl,hb4⟩
              have HZ4:=Lib.hid ((balloc HZ.out (.cells #[.string ⟨#[]⟩,.int .i64 t.k,.int .i64 t.n,.string ⟨t.t.toArray⟩] 113)).trans (hb4.mono (balloc HZ.out _).size))
              clear hb4
              go_wp2_with fail
              go_roundw
              case rel=>exact⟨p+1,by omega,by go_num,by rw[HT1.out,<-Bool.or_assoc,HCC.out,HBN.out,Bool.or_false],by rw[HT2.out,<-Bool.or_assoc,HDD.out,HBT.out];cases vb<;>rfl,HZ4⟩
              case measure=>simp [intOf];omega
           ·have he:=ba_empty hx
            have he2:t.x.isEmpty=false:=by
             cases hxx:t.x with
             | nil=>exact absurd hxx hx
             | cons _ _=>rfl
            have he3:(!t.x.isEmpty)=true:=by rw[he2];rfl
            obtain⟨xb,hxb⟩:∃ xb,isNameB t.x=xb:=⟨_,rfl⟩
            have hbn:badNt t = !xb:=by unfold badNt;rw[decide_eq_true hx,hxb];rfl
            have hbt:badTm t = !decide ((⟨t.k,t.n,t.t⟩:Vl)=⟨0,0,[]⟩):=by unfold badTm;rw[if_neg hx,<-decide_not];rfl
            have hnx2:=fun W=>HNA.out W t.x hxl
            rw[show isNameB (⟨t.x.toArray⟩:ByteArray).data.toList=xb from hxb] at hnx2
            have HNX:=Lib.hid hnx2
            have HBN:=Lib.hid hbn
            have HBT:=Lib.hid hbt
            clear hx hbn hxb hnx2 hbt
            cases cc with
            | true =>
              cases dd with
              | true =>
                go_wp2_with fail
                go_roundw
                case rel=>exact⟨p+1,by omega,by go_num,by rw[HT1.out,<-Bool.or_assoc,HCC.out];rfl,by rw[HT2.out,<-Bool.or_assoc,HDD.out];rfl,Lib.hid (balloc HZ.out _)⟩
                case measure=>simp [intOf];omega
              | false =>
                go_wp2_with fail
                go_roundw
                case rel=>exact⟨p+1,by omega,by go_num,by rw[HT1.out,<-Bool.or_assoc,HCC.out];rfl,by rw[HT2.out,<-Bool.or_assoc,HDD.out,HBT.out];simp,Lib.hid (balloc HZ.out _)⟩
                case measure=>simp [intOf];omega
            | false =>
              cases dd with
              | true =>
                go_wp2_with fail
                refine (HNX.out _).mono ?_
                rintro e w4 ⟨rfl,rfl⟩
                go_wp2_with fail
                go_roundw
                case rel=>exact⟨p+1,by omega,by go_num,by rw[HT1.out,<-Bool.or_assoc,HCC.out,HBN.out];cases xb<;>rfl,by rw[HT2.out,<-Bool.or_assoc,HDD.out];rfl,Lib.hid (balloc HZ.out _)⟩
                case measure=>simp [intOf];omega
              | false =>
                go_wp2_with fail
                refine (HNX.out _).mono ?_
                rintro e w4 ⟨rfl,rfl⟩
                go_wp2_with fail
                go_roundw
                case rel=>exact⟨p+1,by omega,by go_num,by rw[HT1.out,<-Bool.or_assoc,HCC.out,HBN.out];cases xb<;>rfl,by rw[HT2.out,<-Bool.or_assoc,HDD.out,HBT.out];simp,Lib.hid (balloc HZ.out _)⟩
                case measure=>simp [intOf];omega
          ·obtain rfl:p=m:=by omega
           go_wp2_with fail
           go_roundw
           case rel =>
            refine⟨j+1,by omega,by go_num,?_,?_,?_,HBZ⟩
            ·rw[List.take_of_length_le (by rw[HM.out];exact Nat.le_refl _),HS1.out,<-Bool.or_assoc,HBB.out,HB1.out]
             unfold badNa
             rw[HRB.out,Bool.or_assoc]
            ·rw[List.take_of_length_le (by rw[HM.out];exact Nat.le_refl _),HS2.out,HVV.out]
            ·rw[HS3.out,HWW.out,HW2.out,HW5.out]
             first | (simp;done) | (simp;omega)
           case measure=>simp [intOf];omega
     ·have HW5:=HWA
      cases bb with
      | true =>
        go_wp2_with fail
        go_loopw [3,5,8] (fun b v i wr=>∃ p:Nat,p<=m/\i=.int .i64 p/\b=.bool (!(b1 || (a.ts.take p).any badNt))/\v=.bool (!(vv || (a.ts.take p).any badTm))/\Hid (Below wo.heap.size wo wr)) (fun _ _ i _=>m - (intOf i).toNat)
        case atStart=>exact⟨0,Nat.zero_le _,rfl,by rw[HB1.out];cases rb<;>rfl,by cases vv<;>rfl,Lib.hid (Below.refl _ _)⟩
        case round =>
         obtain⟨p,hp,rfl,rfl,rfl,HZ⟩:=hrel
         have hbz:=HW.out.trans (HZ.out.mono HW.out.size)
         have HBZ:=Lib.hid hbz
         have hxz:=HX.out _ hbz
         have x0:=hxz.cell 0
         have x1:=hxz.cell 1
         have x2:=hxz.cell 2
         have xl:=hxz.lt
         simp only[List.getElem?_toArray,List.getElem?_cons_zero,List.getElem?_cons_succ] at x0 x1 x2
         have g0:=(HZ.out.cell (p:=⟨b,off+j * 2,none⟩) hbl).trans q0
         have g1:=(HZ.out.cell (p:=⟨b,off+j * 2+1,none⟩) hbl).trans q1
         have hzl:=Nat.lt_of_lt_of_le hbl HZ.out.size
         clear hxz hbz
         by_cases hpt:p<m
         ·obtain⟨t,ht⟩:∃ t,a.ts[p]? = some t:=⟨a.ts[p]'(by rw[HM.out];exact hpt),List.getElem?_eq_getElem (by rw[HM.out];exact hpt)⟩
          obtain⟨tb,tfo,tcap,htv,_,_,htbl,hce⟩:=(HROW.out.keep HZ.out).get (i:=p) (x:=t.cells) (by simp [ht])
          simp only[List.length_map,HM.out,Value.slice.injEq,true_and] at htv
          obtain⟨rfl,rfl⟩:=htv
          have u0:=hce 0 _ rfl
          have u1:=hce 1 _ rfl
          have u2:=hce 2 _ rfl
          have u3:=hce 3 _ rfl
          simp only[Nat.add_zero] at u0
          have hxl:=HTX.out t (List.mem_of_getElem? ht)
          have HT1:=Lib.hid (take_any_succ badNt ht)
          have HT2:=Lib.hid (take_any_succ badTm ht)
          obtain⟨cc,hcc⟩:∃ cc,(b1 || (a.ts.take p).any badNt)=cc:=⟨_,rfl⟩
          obtain⟨dd,hdd⟩:∃ dd,(vv || (a.ts.take p).any badTm)=dd:=⟨_,rfl⟩
          rw[hcc,hdd]
          have HCC:=Lib.hid hcc
          have HDD:=Lib.hid hdd
          have hpk:decide ((p:Int)<0)=false:=by simp
          have hpn:decide ((m:Int)<=(p:Int))=false:=by simp;omega
          clear hce ht hcc hdd
          by_cases hx:t.x=[]
          ·have hbn:badNt t=false:=by unfold badNt;rw[hx];rfl
           obtain⟨vb,hvb⟩:∃ vb,validB t.k t.n t.t=vb:=⟨_,rfl⟩
           have hbt:badTm t = !vb:=by unfold badTm;rw[if_pos hx,hvb]
           have hvd:=fun W=>HVD.out W t
           rw[show validB t.k t.n (⟨t.t.toArray⟩:ByteArray).data.toList=vb from hvb] at hvd
           have HVT:=Lib.hid hvd
           have HBN:=Lib.hid hbn
           have HBT:=Lib.hid hbt
           rw[hx] at u0
           clear hbn hbt hvb hvd hx
           cases dd with
           | true =>
             go_wp2_with fail
             go_roundw
             case rel=>exact⟨p+1,by omega,by go_num,by rw[HT1.out,<-Bool.or_assoc,HCC.out,HBN.out,Bool.or_false],by rw[HT2.out,<-Bool.or_assoc,HDD.out];rfl,Lib.hid (balloc HZ.out _)⟩
             case measure=>simp [intOf];omega
           | false =>
             go_wp2_with fail
             refine (HVT.out _).mono ?_
             rintro e w4 ⟨rfl,hb4⟩
             have HZ4:=Lib.hid ((balloc HZ.out (.cells #[.string ⟨#[]⟩,.int .i64 t.k,.int .i64 t.n,.string ⟨t.t.toArray⟩] 113)).trans (hb4.mono (balloc HZ.out _).size))
             clear hb4
             go_wp2_with fail
             go_roundw
             case rel=>exact⟨p+1,by omega,by go_num,by rw[HT1.out,<-Bool.or_assoc,HCC.out,HBN.out,Bool.or_false],by rw[HT2.out,<-Bool.or_assoc,HDD.out,HBT.out];cases vb<;>rfl,HZ4⟩
             case measure=>simp [intOf];omega
          ·have he:=ba_empty hx
           have he2:t.x.isEmpty=false:=by
            cases hxx:t.x with
            | nil=>exact absurd hxx hx
            | cons _ _=>rfl
           have he3:(!t.x.isEmpty)=true:=by rw[he2];rfl
           obtain⟨xb,hxb⟩:∃ xb,isNameB t.x=xb:=⟨_,rfl⟩
           have hbn:badNt t = !xb:=by unfold badNt;rw[decide_eq_true hx,hxb];rfl
           have hbt:badTm t = !decide ((⟨t.k,t.n,t.t⟩:Vl)=⟨0,0,[]⟩):=by unfold badTm;rw[if_neg hx,<-decide_not];rfl
           have hnx2:=fun W=>HNA.out W t.x hxl
           rw[show isNameB (⟨t.x.toArray⟩:ByteArray).data.toList=xb from hxb] at hnx2
           have HNX:=Lib.hid hnx2
           have HBN:=Lib.hid hbn
           have HBT:=Lib.hid hbt
           clear hx hbn hxb hnx2 hbt
           cases cc with
           | true =>
             cases dd with
             | true =>
               go_wp2_with fail
               go_roundw
               case rel=>exact⟨p+1,by omega,by go_num,by rw[HT1.out,<-Bool.or_assoc,HCC.out];rfl,by rw[HT2.out,<-Bool.or_assoc,HDD.out];rfl,Lib.hid (balloc HZ.out _)⟩
               case measure=>simp [intOf];omega
             | false =>
               go_wp2_with fail
               go_roundw
               case rel=>exact⟨p+1,by omega,by go_num,by rw[HT1.out,<-Bool.or_assoc,HCC.out];rfl,by rw[HT2.out,<-Bool.or_assoc,HDD.out,HBT.out];simp,Lib.hid (balloc HZ.out _)⟩
               case measure=>simp [intOf];omega
           | false =>
             cases dd with
             | true =>
               go_wp2_with fail
               refine (HNX.out _).mono ?_
               rintro e w4 ⟨rfl,rfl⟩
               go_wp2_with fail
               go_roundw
               case rel=>exact⟨p+1,by omega,by go_num,by rw[HT1.out,<-Bool.or_assoc,HCC.out,HBN.out];cases xb<;>rfl,by rw[HT2.out,<-Bool.or_assoc,HDD.out];rfl,Lib.hid (balloc HZ.out _)⟩
               case measure=>simp [intOf];omega
             | false =>
               go_wp2_with fail
               refine (HNX.out _).mono ?_
               rintro e w4 ⟨rfl,rfl⟩
               go_wp2_with fail
               go_roundw
               case rel=>exact⟨p+1,by omega,by go_num,by rw[HT1.out,<-Bool.or_assoc,HCC.out,HBN.out];cases xb<;>rfl,by rw[HT2.out,<-Bool.or_assoc,HDD.out,HBT.out];simp,Lib.hid (balloc HZ.out _)⟩
               case measure=>simp [intOf];omega
         ·obtain rfl:p=m:=by omega
          go_wp2_with fail
          go_roundw
          case rel =>
           refine⟨j+1,by omega,by go_num,?_,?_,?_,HBZ⟩
           ·rw[List.take_of_length_le (by rw[HM.out];exact Nat.le_refl _),HS1.out,<-Bool.or_assoc,HBB.out,HB1.out]
            unfold badNa
            rw[HRB.out,Bool.or_assoc]
           ·rw[List.take_of_length_le (by rw[HM.out];exact Nat.le_refl _),HS2.out,HVV.out]
           ·rw[HS3.out,HWW.out,HW2.out,HW5.out]
            first | (simp;done) | (simp;omega)
          case measure=>simp [intOf];omega
      | false =>
        go_wp2_with fail
        refine HNR.out.mono ?_
        rintro e w3 ⟨rfl,rfl⟩
        go_wp2_with fail
        go_loopw [3,5,8] (fun b v i wr=>∃ p:Nat,p<=m/\i=.int .i64 p/\b=.bool (!(b1 || (a.ts.take p).any badNt))/\v=.bool (!(vv || (a.ts.take p).any badTm))/\Hid (Below wo.heap.size wo wr)) (fun _ _ i _=>m - (intOf i).toNat)
        case atStart=>exact⟨0,Nat.zero_le _,rfl,by rw[HB1.out];cases rb<;>rfl,by cases vv<;>rfl,Lib.hid (Below.refl _ _)⟩
        case round =>
         obtain⟨p,hp,rfl,rfl,rfl,HZ⟩:=hrel
         have hbz:=HW.out.trans (HZ.out.mono HW.out.size)
         have HBZ:=Lib.hid hbz
         have hxz:=HX.out _ hbz
         have x0:=hxz.cell 0
         have x1:=hxz.cell 1
         have x2:=hxz.cell 2
         have xl:=hxz.lt
         simp only[List.getElem?_toArray,List.getElem?_cons_zero,List.getElem?_cons_succ] at x0 x1 x2
         have g0:=(HZ.out.cell (p:=⟨b,off+j * 2,none⟩) hbl).trans q0
         have g1:=(HZ.out.cell (p:=⟨b,off+j * 2+1,none⟩) hbl).trans q1
         have hzl:=Nat.lt_of_lt_of_le hbl HZ.out.size
         clear hxz hbz
         by_cases hpt:p<m
         ·obtain⟨t,ht⟩:∃ t,a.ts[p]? = some t:=⟨a.ts[p]'(by rw[HM.out];exact hpt),List.getElem?_eq_getElem (by rw[HM.out];exact hpt)⟩
          obtain⟨tb,tfo,tcap,htv,_,_,htbl,hce⟩:=(HROW.out.keep HZ.out).get (i:=p) (x:=t.cells) (by simp [ht])
          simp only[List.length_map,HM.out,Value.slice.injEq,true_and] at htv
          obtain⟨rfl,rfl⟩:=htv
          have u0:=hce 0 _ rfl
          have u1:=hce 1 _ rfl
          have u2:=hce 2 _ rfl
          have u3:=hce 3 _ rfl
          simp only[Nat.add_zero] at u0
          have hxl:=HTX.out t (List.mem_of_getElem? ht)
          have HT1:=Lib.hid (take_any_succ badNt ht)
          have HT2:=Lib.hid (take_any_succ badTm ht)
          obtain⟨cc,hcc⟩:∃ cc,(b1 || (a.ts.take p).any badNt)=cc:=⟨_,rfl⟩
          obtain⟨dd,hdd⟩:∃ dd,(vv || (a.ts.take p).any badTm)=dd:=⟨_,rfl⟩
          rw[hcc,hdd]
          have HCC:=Lib.hid hcc
          have HDD:=Lib.hid hdd
          have hpk:decide ((p:Int)<0)=false:=by simp
          have hpn:decide ((m:Int)<=(p:Int))=false:=by simp;omega
          clear hce ht hcc hdd
          by_cases hx:t.x=[]
          ·have hbn:badNt t=false:=by unfold badNt;rw[hx];rfl
           obtain⟨vb,hvb⟩:∃ vb,validB t.k t.n t.t=vb:=⟨_,rfl⟩
           have hbt:badTm t = !vb:=by unfold badTm;rw[if_pos hx,hvb]
           have hvd:=fun W=>HVD.out W t
           rw[show validB t.k t.n (⟨t.t.toArray⟩:ByteArray).data.toList=vb from hvb] at hvd
           have HVT:=Lib.hid hvd
           have HBN:=Lib.hid hbn
           have HBT:=Lib.hid hbt
           rw[hx] at u0
           clear hbn hbt hvb hvd hx
           cases dd with
           | true =>
             go_wp2_with fail
             go_roundw
             case rel=>exact⟨p+1,by omega,by go_num,by rw[HT1.out,<-Bool.or_assoc,HCC.out,HBN.out,Bool.or_false],by rw[HT2.out,<-Bool.or_assoc,HDD.out];rfl,Lib.hid (balloc HZ.out _)⟩
             case measure=>simp [intOf];omega
           | false =>
             go_wp2_with fail
             refine (HVT.out _).mono ?_
             rintro e w4 ⟨rfl,hb4⟩
             have HZ4:=Lib.hid ((balloc HZ.out (.cells #[.string ⟨#[]⟩,.int .i64 t.k,.int .i64 t.n,.string ⟨t.t.toArray⟩] 113)).trans (hb4.mono (balloc HZ.out _).size))
             clear hb4
             go_wp2_with fail
             go_roundw
             case rel=>exact⟨p+1,by omega,by go_num,by rw[HT1.out,<-Bool.or_assoc,HCC.out,HBN.out,Bool.or_false],by rw[HT2.out,<-Bool.or_assoc,HDD.out,HBT.out];cases vb<;>rfl,HZ4⟩
             case measure=>simp [intOf];omega
          ·have he:=ba_empty hx
           have he2:t.x.isEmpty=false:=by
            cases hxx:t.x with
            | nil=>exact absurd hxx hx
            | cons _ _=>rfl
           have he3:(!t.x.isEmpty)=true:=by rw[he2];rfl
           obtain⟨xb,hxb⟩:∃ xb,isNameB t.x=xb:=⟨_,rfl⟩
           have hbn:badNt t = !xb:=by unfold badNt;rw[decide_eq_true hx,hxb];rfl
           have hbt:badTm t = !decide ((⟨t.k,t.n,t.t⟩:Vl)=⟨0,0,[]⟩):=by unfold badTm;rw[if_neg hx,<-decide_not];rfl
           have hnx2:=fun W=>HNA.out W t.x hxl
           rw[show isNameB (⟨t.x.toArray⟩:ByteArray).data.toList=xb from hxb] at hnx2
           have HNX:=Lib.hid hnx2
           have HBN:=Lib.hid hbn
           have HBT:=Lib.hid hbt
           clear hx hbn hxb hnx2 hbt
           cases cc with
           | true =>
             cases dd with
             | true =>
               go_wp2_with fail
               go_roundw
               case rel=>exact⟨p+1,by omega,by go_num,by rw[HT1.out,<-Bool.or_assoc,HCC.out];rfl,by rw[HT2.out,<-Bool.or_assoc,HDD.out];rfl,Lib.hid (balloc HZ.out _)⟩
               case measure=>simp [intOf];omega
             | false =>
               go_wp2_with fail
               go_roundw
               case rel=>exact⟨p+1,by omega,by go_num,by rw[HT1.out,<-Bool.or_assoc,HCC.out];rfl,by rw[HT2.out,<-Bool.or_assoc,HDD.out,HBT.out];simp,Lib.hid (balloc HZ.out _)⟩
               case measure=>simp [intOf];omega
           | false =>
             cases dd with
             | true =>
               go_wp2_with fail
               refine (HNX.out _).mono ?_
               rintro e w4 ⟨rfl,rfl⟩
               go_wp2_with fail
               go_roundw
               case rel=>exact⟨p+1,by omega,by go_num,by rw[HT1.out,<-Bool.or_assoc,HCC.out,HBN.out];cases xb<;>rfl,by rw[HT2.out,<-Bool.or_assoc,HDD.out];rfl,Lib.hid (balloc HZ.out _)⟩
               case measure=>simp [intOf];omega
             | false =>
               go_wp2_with fail
               refine (HNX.out _).mono ?_
               rintro e w4 ⟨rfl,rfl⟩
               go_wp2_with fail
               go_roundw
               case rel=>exact⟨p+1,by omega,by go_num,by rw[HT1.out,<-Bool.or_assoc,HCC.out,HBN.out];cases xb<;>rfl,by rw[HT2.out,<-Bool.or_assoc,HDD.out,HBT.out];simp,Lib.hid (balloc HZ.out _)⟩
               case measure=>simp [intOf];omega
         ·obtain rfl:p=m:=by omega
          go_wp2_with fail
          go_roundw
          case rel =>
           refine⟨j+1,by omega,by go_num,?_,?_,?_,HBZ⟩
           ·rw[List.take_of_length_le (by rw[HM.out];exact Nat.le_refl _),HS1.out,<-Bool.or_assoc,HBB.out,HB1.out]
            unfold badNa
            rw[HRB.out,Bool.or_assoc]
           ·rw[List.take_of_length_le (by rw[HM.out];exact Nat.le_refl _),HS2.out,HVV.out]
           ·rw[HS3.out,HWW.out,HW2.out,HW5.out]
            first | (simp;done) | (simp;omega)
          case measure=>simp [intOf];omega
    ·obtain rfl:j=n:=by omega
     rw[List.take_of_length_le (by rw[HN.out];exact Nat.le_refl _)]
     generalize (N0 || al.any badNa)=B1 at *
     generalize al.any wideA=B3 at *
     generalize (al.any fun a=>a.ts.any badTm)=B2 at *
     have BB:=Lib.hid (HB0.out.trans (HW.out.mono HB0.out.size))
     have hq:=HQ.out
     cases B1 with
     | true =>
       rw[if_pos rfl] at hq
       have HQ:=Lib.hid hq
       clear hq
       go_wp2_with fail
       go_ret
       exact⟨by rw[HQ.out];rfl,BB.out⟩
     | false =>
     rw[if_neg (by decide)] at hq
     have HQ:=Lib.hid hq
     clear hq
     have hq:=HQ.out
     cases B2 with
     | true =>
       rw[if_pos rfl] at hq
       have HQ:=Lib.hid hq
       clear hq
       go_wp2_with fail
       go_ret
       exact⟨by rw[HQ.out];rfl,BB.out⟩
     | false =>
     rw[if_neg (by decide)] at hq
     have HQ:=Lib.hid hq
     clear hq
     by_cases hz:j=0
     ·have hq:=HQ.out
      rw[if_pos (.inl hz)] at hq
      have HQ:=Lib.hid hq
      clear hq
      subst hz
      go_wp2_with fail
      go_ret
      exact⟨by rw[HQ.out];rfl,BB.out⟩
     have z1:decide ((j:Int)<1)=false:=by simp;omega
     have z2:¬ ((j:Int)<1):=by omega
     have z3:¬ j<1:=by omega
     by_cases h6:6<j
     ·have hq:=HQ.out
      rw[if_pos (.inr h6)] at hq
      have HQ:=Lib.hid hq
      have hd:(6:Int)<(j:Int):=by omega
      clear hq
      go_wp2_with fail
      go_ret
      exact⟨by rw[HQ.out];rfl,BB.out⟩
     have hq:=HQ.out
     rw[if_neg (by omega)] at hq
     have HQ:=Lib.hid hq
     have hd1:¬ ((6:Int)<(j:Int)):=by omega
     have hd2:(j:Int)<=6:=by omega
     clear hq
     have hq:=HQ.out
     cases B3 with
     | true =>
       rw[if_pos rfl] at hq
       have HQ:=Lib.hid hq
       clear hq
       go_wp2_with fail
       go_ret
       exact⟨by rw[HQ.out];rfl,BB.out⟩
     | false =>
     rw[if_neg (by decide)] at hq
     have HQ:=Lib.hid hq
     have hvs:=HVS.out (by omega) (by trivial)
     clear hq
     go_wp2_with fail
     go_loopw [10] (fun i wr=>∃ p:Nat,p<=k/\i=.int .i64 p/\Hid (dupG (hd.take p) (hd.drop p) p=D1)/\Hid (Below w0.heap.size w0 wr)) (fun i _=>k - (intOf i).toNat)
     case atStart=>exact⟨0,Nat.zero_le _,rfl,HDP,HW⟩
     case round =>
      obtain⟨p,hp,rfl,HP,HZ⟩:=hrel
      obtain⟨wi,rfl⟩:∃ wi:World,wi=wr:=⟨_,rfl⟩
      have hxz:=HX.out _ HZ.out
      have x0:=hxz.cell 0
      have x1:=hxz.cell 1
      have x2:=hxz.cell 2
      have xl:=hxz.lt
      simp only[List.getElem?_toArray,List.getElem?_cons_zero,List.getElem?_cons_succ] at x0 x1 x2
      have BB:=Lib.hid (HB0.out.trans (HZ.out.mono HB0.out.size))
      clear hxz
      by_cases hpt:p<k
      ·obtain⟨s,hs⟩:∃ s,hd[p]? = some s:=⟨hd[p]'(by rw[HHN.out];exact hpt),List.getElem?_eq_getElem (by rw[HHN.out];exact hpt)⟩
       obtain⟨sb,so,scap,hsv,_,_,hsl,s0⟩:=(HH.out.keep HZ.out).get hs
       simp only[HHN.out,Value.slice.injEq,true_and] at hsv
       obtain⟨rfl,rfl⟩:=hsv
       have HATP:=Lib.hid (HAT.out _ (bdrew HZ.out) s)
       have hpk:decide ((p:Int)<0)=false:=by simp
       have hpn:decide ((k:Int)<=(p:Int))=false:=by simp;omega
       by_cases hm:s∈hd.take p
       ·have hi:=idx_seen hs hm
        have hdd:=HP.out
        rw[dup_hit hs hm] at hdd
        have hq:=HQ.out
        rw[if_pos (by rw[<-hdd];exact Int.natCast_nonneg p)] at hq
        have HQ:=Lib.hid hq
        clear hs hm hdd hq
        generalize idxI hd s=ix at *
        have hdt:decide (ix<(p:Int))=true:=decide_eq_true hi
        go_wp2_with fail
        go_region_law (go_simp;go_at_call 51;refine HATP.out.mono ?_;rintro e w8 ⟨rfl,rfl⟩)
        all_goals
         go_wp2_with fail
         go_ret
         exact⟨by rw[HQ.out];rfl,bdrew BB.out⟩
       ·have hi:=idxI_hit hs hm
        have hdd:=HP.out
        rw[dup_step hs hm] at hdd
        have HP2:=Lib.hid hdd
        have HZD:=Lib.hid (bdrew HZ.out)
        rw[hi] at HATP
        clear hs hm hdd hi
        have hdt:decide ((p:Int)<(p:Int))=false:=by simp
        go_wp2_with fail
        go_region_law (go_simp;go_at_call 51;refine HATP.out.mono ?_;rintro e w8 ⟨rfl,rfl⟩)
        all_goals
         go_wp2_with fail
         go_roundw
         case rel=>exact⟨p+1,by omega,by go_num,HP2,HZD⟩
         case measure=>simp [intOf];omega
      ·obtain rfl:p=k:=by omega
       have hdd:=HP.out
       rw[List.drop_of_length_le (by rw[HHN.out];exact Nat.le_refl _)] at hdd
       unfold dupG at hdd
       have hq:=HQ.out
       rw[if_neg (by rw[<-hdd];decide)] at hq
       have HQ:=Lib.hid hq
       have HVP:=Lib.hid (HVR.out _ HZ.out (by omega) (by trivial))
       clear hdd hq
       go_wp2_with fail
       refine HVP.out.mono ?_
       rintro e w8 ⟨vv,rfl,hov,hb8⟩
       have hsv:StrsAt w8 vv (qVars al):=hov.strs (by omega)
       obtain⟨va,vc,rfl,_,_⟩:=hsv.form
       have hz8:=HZ.out.trans (hb8.mono HZ.out.size)
       have HZ8:=Lib.hid hz8
       have HSV:=Lib.hid hsv
       generalize qVars al=VS at *
       have hx8:=HX.out _ hz8
       have x0:=hx8.cell 0
       have x1:=hx8.cell 1
       have xl:=hx8.lt
       simp only[List.getElem?_toArray,List.getElem?_cons_zero,List.getElem?_cons_succ] at x0 x1
       have BB8:=Lib.hid (HB0.out.trans (hz8.mono HB0.out.size))
       have HS8:=Lib.hid (HH.out.keep hz8)
       clear hov hb8 hsv hz8 hx8
       go_wp2_with fail
       go_loop [12] (fun i=>∃ q:Nat,q<=p/\i=.int .i64 q/\Hid (((hd.take q).any fun s => !decide (s∈VS))=false)) (fun i=>p - (intOf i).toNat)
       case atStart=>exact⟨0,Nat.zero_le _,rfl,Lib.hid rfl⟩
       case round =>
        obtain⟨q,hq,rfl,HPL⟩:=hrel
        by_cases hqt:q<p
        ·obtain⟨s,hs⟩:∃ s,hd[q]? = some s:=⟨hd[q]'(by rw[HHN.out];exact hqt),List.getElem?_eq_getElem (by rw[HHN.out];exact hqt)⟩
         obtain⟨sb,so,scap,hsv,_,_,hsl,s0⟩:=HS8.out.get hs
         simp only[HHN.out,Value.slice.injEq,true_and] at hsv
         obtain⟨rfl,rfl⟩:=hsv
         have hin:=refIn_any w8 _ VS s HSV.out
         have hpk:decide ((q:Int)<0)=false:=by simp
         have hpn:decide ((p:Int)<=(q:Int))=false:=by simp;omega
         by_cases hm:s∈VS
         ·rw[decide_eq_true hm] at hin
          have HIN:=Lib.hid hin
          have HP2:Hid (((hd.take (q+1)).any fun s => !decide (s∈VS))=false):=Lib.hid (by rw[take_any_succ _ hs,HPL.out,decide_eq_true hm];rfl)
          clear hs hm hin
          go_wp2_with fail
          refine HIN.out.mono ?_
          rintro e w9 ⟨rfl,rfl⟩
          go_wp2_with fail
          go_round
          case rel=>exact⟨q+1,by omega,by go_num,HP2⟩
          case measure=>simp [intOf];omega
         ·rw[decide_eq_false hm] at hin
          have HIN:=Lib.hid hin
          have hlk:=HLK.out
          have hany:(hd.any fun s => !decide (s∈VS))=true:=List.any_eq_true.2 ⟨s,List.mem_of_getElem? hs,by rw[decide_eq_false hm];rfl⟩
          rw[hany] at hlk
          have hqq:=HQ.out
          rw[if_pos (of_decide_eq_true hlk)] at hqq
          have HQ:=Lib.hid hqq
          clear hs hm hin hlk hany hqq
          go_wp2_with fail
          refine HIN.out.mono ?_
          rintro e w9 ⟨rfl,rfl⟩
          go_wp2_with fail
          go_ret
          exact⟨by rw[HQ.out];rfl,BB8.out⟩
        ·obtain rfl:q=p:=by omega
         have hlk:=HLK.out
         have hp:=HPL.out
         rw[List.take_of_length_le (by rw[HHN.out];exact Nat.le_refl _)] at hp
         rw[hp] at hlk
         have hqq:=HQ.out
         rw[if_neg (of_decide_eq_false hlk)] at hqq
         have HQ:=Lib.hid hqq
         clear hlk hp hqq
         go_wp2_with fail
         go_ret
         exact⟨by rw[HQ.out];rfl,BB8.out⟩
theorem join_snocG (l:List (List UInt8)) (x sep:List UInt8) (h:l≠[]):Lib.join (l++[x]) sep=Lib.join l sep++sep++x:=by
 cases l with
 | nil=>exact absurd rfl h
 | cons a r =>
   rw[List.cons_append,Lib.join_cons,Lib.join_cons]
   simp [Lib.joinTail]
theorem take_map_succ {α β:Type} (f:α->β) {l:List α} {k:Nat} {x:α} (h:l[k]? = some x):(l.take (k+1)).map f=(l.take k).map f++[f x]:=by
 rw[List.take_add_one,h]
 simp
theorem take_join {α:Type} (f:α->List UInt8) {l:List α} {k:Nat} {x:α} (h:l[k]? = some x) (h0:k≠0):Lib.join ((l.take (k+1)).map f) [44,32]=Lib.join ((l.take k).map f) [44,32]++[44,32]++f x:=by
 have hk:=(List.getElem?_eq_some_iff.1 h).1
 rw[take_map_succ f h]
 refine join_snocG _ _ _ fun e=>?_
 have:((l.take k).map f).length=k:=by rw[List.length_map,List.length_take];omega
 rw[e] at this
 simp at this
 exact h0 this.symm
theorem take_join0 {α:Type} (f:α->List UInt8) {l:List α} {x:α} (h:l[0]? = some x):Lib.join ((l.take (0+1)).map f) [44,32]=f x:=by
 rw[take_map_succ f h]
 simp [Lib.join_one]
theorem ba_appQ {S:ByteArray} {t l:List UInt8} (h:S.data.toList=l):S++⟨t.toArray⟩=⟨(l++t).toArray⟩:=by
 subst h
 apply ByteArray.ext
 simp
set_option maxHeartbeats 8000000 in
set_option maxRecDepth 100000 in
theorem refShowAtom_any (w:World) (a:Atm) (tv:Value) (h:RowAt w tv 4 (a.ts.map Trm.cells)) (hr:a.rel.length<=16) (hm:a.ts.length<=5) (ht:∀ t∈a.ts,(tmT t).length<=258 /\ -9223372036854775808<=t.n/\t.n<=9223372036854775807) :
 Calls Tryz.prog 100 #[.agg #[.string ⟨a.rel.toArray⟩,tv]] w fun e w'=>e=.returned (.string ⟨(atT a).toArray⟩)/\Below w.heap.size w w':=by
 obtain⟨ta,tc,rfl,htc,htm⟩:=h.form
 have hres:atT a=a.rel++[40]++Lib.join (a.ts.map tmT) [44,32]++[41]:=by
  unfold atT
  simp
 rw[hres]
 unfold maxLen at htm
 rw[List.length_map] at *
 have hb0:Below w.heap.size w (w.alloc (.cells #[.string ⟨a.rel.toArray⟩,.slice ta a.ts.length tc] 105)):=balloc (Below.refl _ _) _
 have HB0:=Lib.hid hb0
 have HBX:=Lib.hid (Blk.new w 105 #[.string ⟨a.rel.toArray⟩,.slice ta a.ts.length tc])
 have HROW:=Lib.hid h
 have HT:=Lib.hid ht
 have HSH:=Lib.hid (fun W (t:Trm) (h0 : -9223372036854775808<=t.n) (h1:t.n<=9223372036854775807)=>refShow_any t.k t.n ⟨t.t.toArray⟩ W h0 h1)
 clear h ht hb0 hres
 generalize hM:a.ts.length=m at *
 have HM:=Lib.hid hM
 have zr:(⟨a.rel.toArray⟩:ByteArray).size=a.rel.length:=by simp [ByteArray.size]
 have hl0:a.rel.length+1<=9223372036854775807:=by omega
 clear hM
 go_enter Tryz.func100,Tryz.ntmps100
 go_wp2_with fail
 go_loopw [3,4] (fun s i wr=>∃ (k:Nat) (S:ByteArray),k<=m/\s=.string S/\i=.int .i64 k/\S.size<=17+260 * k/\Hid (S.data.toList=a.rel++[40]++Lib.join ((a.ts.take k).map tmT) [44,32])/\Hid (Below (w.heap.size+1) (w.alloc (.cells #[.string ⟨a.rel.toArray⟩,.slice ta m tc] 105)) wr)) (fun _ i _=>m - (intOf i).toNat)
 case atStart=>exact⟨0,⟨a.rel.toArray⟩++⟨#[40]⟩,Nat.zero_le _,rfl,rfl,by rw[ByteArray.size_append,show (⟨#[40]⟩:ByteArray).size=1 from rfl];omega,Lib.hid (by simp [Lib.join_nil]),Lib.hid (Below.refl _ _)⟩
 case round =>
  obtain⟨k,S,hk,rfl,rfl,hS,HS,HW⟩:=hrel
  obtain⟨wo,rfl⟩:∃ wo:World,wo=wr:=⟨_,rfl⟩
  have hbx:=HBX.out.below HW.out (by simp)
  have x0:=hbx.cell 0
  have x1:=hbx.cell 1
  have xl:=hbx.lt
  simp only[List.getElem?_toArray,List.getElem?_cons_zero,List.getElem?_cons_succ] at x0 x1
  have hbw:Below w.heap.size w wo:=HB0.out.trans (HW.out.mono (by omega))
  have HBW:=Lib.hid hbw
  have hzz:w.heap.size+1<=wo.heap.size:=by have:=HW.out.size;simp at this;omega
  clear hbx hbw
  by_cases hkm:k<m
  ·obtain⟨t,htt⟩:∃ t,a.ts[k]? = some t:=⟨a.ts[k]'(by rw[HM.out];exact hkm),List.getElem?_eq_getElem (by rw[HM.out];exact hkm)⟩
   obtain⟨tb,tfo,tcap,htv,_,_,htbl,hce⟩:=(HROW.out.keep HBW.out).get (i:=k) (x:=t.cells) (by simp [htt])
   simp only[List.length_map,HM.out,Value.slice.injEq,true_and] at htv
   obtain⟨rfl,rfl⟩:=htv
   have u0:=hce 0 _ rfl
   have u1:=hce 1 _ rfl
   have u2:=hce 2 _ rfl
   have u3:=hce 3 _ rfl
   simp only[Nat.add_zero] at u0
   obtain⟨hwl,hn0,hn1⟩:=HT.out t (List.mem_of_getElem? htt)
   have z2:(⟨#[44,32]⟩:ByteArray).size=2:=rfl
   have hdk:decide ((k:Int)<0)=false:=by simp
   have hdn:decide ((m:Int)<=(k:Int))=false:=by simp;omega
   by_cases hx:t.x=[]
   ·have htm1:tmT t=showR t.k t.n t.t:=by unfold tmT;rw[if_pos hx]
    have hsv:=fun W=>HSH.out W t hn0 hn1
    rw[<-htm1] at hsv
    rw[hx] at u0
    by_cases h0:k=0
    ·subst h0
     have e0:=take_join0 tmT htt
     generalize tmT t=word at *
     have HSV:=Lib.hid hsv
     have E0:=Lib.hid e0
     have zc:(⟨word.toArray⟩:ByteArray).size=word.length:=by simp [ByteArray.size]
     have b1:S.size+word.length<=9223372036854775807:=by omega
     simp only[Nat.zero_mul,Nat.add_zero] at u0 u1 u2 u3
     clear e0 hsv htm1 htt hce hx
     go_wp2_with fail
     refine (HSV.out _).mono ?_
     rintro e w4 ⟨rfl,hb4⟩
     have HW4:=Lib.hid (HW.out.trans (hb4.mono hzz))
     clear hb4
     go_wp2_with fail
     go_roundw
     case rel=>exact⟨0+1,_,by omega,rfl,by go_num,by simp only[ByteArray.size_append];omega,Lib.hid (by rw[E0.out];simp [HS.out,Lib.join_nil]),HW4⟩
     case measure=>simp [intOf];omega
    ·have e0:=take_join tmT htt h0
     generalize tmT t=word at *
     have HSV:=Lib.hid hsv
     have E0:=Lib.hid e0
     have zc:(⟨word.toArray⟩:ByteArray).size=word.length:=by simp [ByteArray.size]
     have hk0:decide ((0:Int)<(k:Int))=true:=by simp;omega
     have hk1:0<k:=by omega
     have b0:S.size+2<=9223372036854775807:=by omega
     have b1:S.size+2+word.length<=9223372036854775807:=by omega
     clear e0 hsv htm1 htt hce hx
     go_wp2_with fail
     refine (HSV.out _).mono ?_
     rintro e w4 ⟨rfl,hb4⟩
     have HW4:=Lib.hid (HW.out.trans (hb4.mono hzz))
     clear hb4
     go_wp2_with fail
     go_roundw
     case rel=>exact⟨k+1,_,by omega,rfl,by go_num,by simp only[ByteArray.size_append];omega,Lib.hid (by rw[E0.out];simp [HS.out]),HW4⟩
     case measure=>simp [intOf];omega
   ·have htm1:tmT t=t.x:=by unfold tmT;rw[if_neg hx]
    have he:=ba_empty hx
    have he2:t.x.isEmpty=false:=by
     cases hxx:t.x with
     | nil=>exact absurd hxx hx
     | cons _ _=>rfl
    have he3:(!t.x.isEmpty)=true:=by rw[he2];rfl
    have zc:(⟨t.x.toArray⟩:ByteArray).size=t.x.length:=by simp [ByteArray.size]
    rw[htm1] at hwl
    by_cases h0:k=0
    ·subst h0
     have e0:=take_join0 tmT htt
     rw[htm1] at e0
     have E0:=Lib.hid e0
     have b1:S.size+t.x.length<=9223372036854775807:=by omega
     simp only[Nat.zero_mul,Nat.add_zero] at u0 u1 u2 u3
     clear e0 htm1 htt hce hx
     go_wp2_with fail
     go_roundw
     case rel=>exact⟨0+1,_,by omega,rfl,by go_num,by simp only[ByteArray.size_append];omega,Lib.hid (by rw[E0.out];simp [HS.out,Lib.join_nil]),HW⟩
     case measure=>simp [intOf];omega
    ·have e0:=take_join tmT htt h0
     rw[htm1] at e0
     have E0:=Lib.hid e0
     have hk0:decide ((0:Int)<(k:Int))=true:=by simp;omega
     have hk1:0<k:=by omega
     have b0:S.size+2<=9223372036854775807:=by omega
     have b1:S.size+2+t.x.length<=9223372036854775807:=by omega
     clear e0 htm1 htt hce hx
     go_wp2_with fail
     go_roundw
     case rel=>exact⟨k+1,_,by omega,rfl,by go_num,by simp only[ByteArray.size_append];omega,Lib.hid (by rw[E0.out];simp [HS.out]),HW⟩
     case measure=>simp [intOf];omega
  ·obtain rfl:k=m:=by omega
   have hs:=HS.out
   rw[List.take_of_length_le (by rw[HM.out];exact Nat.le_refl _)] at hs
   have b1:S.size+1<=9223372036854775807:=by omega
   have hcc:S++⟨#[41]⟩=⟨(a.rel++[40]++Lib.join (a.ts.map tmT) [44,32]++[41]).toArray⟩:=by
    exact ba_appQ hs
   have HCC:=Lib.hid hcc
   clear hs hcc
   go_wp2_with fail
   go_ret
   exact⟨(congrArg (fun x=>Ending.returned (Value.string x)) HCC.out).trans (by simp),HBW.out⟩
set_option maxHeartbeats 16000000 in
set_option maxRecDepth 100000 in
theorem refQShow_good (w:World) (nm:ByteArray) (hv av:Value) (hd:List (List UInt8)) (al:List Atm) (hh:StrsAt w hv hd) (h:AtomsAt w av al) (hk:RightQ ⟨nm.data.toList,hd,al⟩) (hr:RangeQ ⟨nm.data.toList,hd,al⟩) :
 Calls Tryz.prog 37 #[.agg #[.string nm,hv,av]] w fun e w'=>e=.returned (.string ⟨(qT ⟨nm.data.toList,hd,al⟩).toArray⟩)/\Below w.heap.size w w':=by
 have hb0:Below w.heap.size w (w.alloc (.cells #[.string nm,hv,av] 50)):=balloc (Below.refl _ _) _
 have hbx:=Blk.new w 50 #[.string nm,hv,av]
 have hnz:nm.size<=16:=(name_len16 hk.name).2
 have hch:=refShape_any _ nm hv av hd al (hh.keep hb0) (h.keep hb0) (by omega) (fun s hs=>by have:=(name_len16 (hk.head s hs)).2;omega) (fun a ha=>⟨by have:=(name_len16 (hk.rel a ha)).2;omega,fun t ht=>by
  by_cases hx:t.x=[]
  ·rw[hx];simp
  ·have:=(name_len16 (hk.var a ha t ht hx).1).2;omega⟩)
 rw[right_chkQ hk] at hch
 have hhl:hd.length<=30:=hk.heads
 have hfew:al.length<=6:=hk.few
 have hhx:∀ s∈hd,s.length<=16:=fun s hs=>(name_len16 (hk.head s hs)).2
 have hax:∀ a∈al,(atT a).length<=1318:=fun a ha=>(atT_len hk hr a ha).2
 have hsa:=fun W (a:Atm) (tv:Value) (ha:a∈al) (hR:RowAt W tv 4 (a.ts.map Trm.cells))=>refShowAtom_any W a tv hR (name_len16 (hk.rel a ha)).2 (hk.thin a ha) (fun t ht=>⟨tmT_len hk hr a ha t ht,hr a ha t ht⟩)
 have hres:qT ⟨nm.data.toList,hd,al⟩=nm.data.toList++[40]++Lib.join (hd.map id) [44,32]++[41,32,58,45,32]++Lib.join (al.map atT) [44,32]:=by
  unfold qT
  simp
 rw[hres]
 have HH:=Lib.hid hh
 have HR:=Lib.hid h
 have HHX:=Lib.hid hhx
 have HAX:=Lib.hid hax
 have HSA:=Lib.hid hsa
 have HC:=Lib.hid hch
 have HB0:=Lib.hid hb0
 have HBX:=Lib.hid hbx
 obtain⟨hda,hdc,rfl,hhc,hhm⟩:=hh.form
 obtain⟨ad,cap,rfl,hnc,hcm⟩:=h.form
 unfold maxLen at hcm hhm
 clear h hh hhx hax hsa hch hb0 hbx hres hk hr
 generalize hHN:hd.length=hn at *
 have HHN:=Lib.hid hHN
 generalize hN:al.length=n at *
 have HN:=Lib.hid hN
 clear hN hHN
 go_enter Tryz.func37,Tryz.ntmps37
 go_wp2_with fail
 refine HC.out.mono ?_
 rintro e w2 ⟨rfl,hb2⟩
 have HB2:=Lib.hid (HB0.out.trans (hb2.mono (by simp)))
 have hbx2:=HBX.out.below hb2 (by simp)
 have HBX2:=Lib.hid hbx2
 have x0:=hbx2.cell 0
 have x1:=hbx2.cell 1
 have x2:=hbx2.cell 2
 simp only[List.getElem?_toArray,List.getElem?_cons_zero,List.getElem?_cons_succ] at x0 x1 x2
 have hxl:=hbx2.lt
 have hl0:nm.size+1<=9223372036854775807:=by omega
 clear hb2 hbx2 HC
 go_wp2_with fail
 go_loop [3,4] (fun s i=>∃ (k:Nat) (S:ByteArray),k<=hn/\s=.string S/\i=.int .i64 k/\S.size<=17+18 * k/\Hid (S.data.toList=nm.data.toList++[40]++Lib.join ((hd.take k).map id) [44,32])) (fun _ i=>hn - (intOf i).toNat)
 case atStart=>exact⟨0,nm++⟨#[40]⟩,Nat.zero_le _,rfl,rfl,by rw[ByteArray.size_append,show (⟨#[40]⟩:ByteArray).size=1 from rfl];omega,Lib.hid (by simp [Lib.join_nil])⟩
 case round =>
  obtain⟨k,S,hk,rfl,rfl,hS,HS⟩:=hrel
  by_cases hkn:k<hn
  ·obtain⟨s,hs⟩:∃ s,hd[k]? = some s:=⟨hd[k]'(by rw[HHN.out];exact hkn),List.getElem?_eq_getElem (by rw[HHN.out];exact hkn)⟩
   obtain⟨sb,so,scap,hsv,_,_,hsl,s0⟩:=(HH.out.keep HB2.out).get hs
   simp only[HHN.out,Value.slice.injEq,true_and] at hsv
   obtain⟨rfl,rfl⟩:=hsv
   have hxx:=HHX.out s (List.mem_of_getElem? hs)
   have z2:(⟨#[44,32]⟩:ByteArray).size=2:=rfl
   have zc:(⟨s.toArray⟩:ByteArray).size=s.length:=by simp [ByteArray.size]
   have hdk:decide ((k:Int)<0)=false:=by simp
   have hdn:decide ((hn:Int)<=(k:Int))=false:=by simp;omega
   by_cases h0:k=0
   ·subst h0
    have E0:=Lib.hid (take_join0 id hs)
    have b1:S.size+s.length<=9223372036854775807:=by omega
    simp only[Nat.add_zero] at s0
    clear hs
    go_wp2_with fail
    go_round
    case rel=>exact⟨0+1,_,by omega,rfl,by go_num,by simp only[ByteArray.size_append];omega,Lib.hid (by rw[E0.out];simp [HS.out,Lib.join_nil])⟩
    case measure=>simp [intOf];omega
   ·have E0:=Lib.hid (take_join id hs h0)
    have hk0:decide ((0:Int)<(k:Int))=true:=by simp;omega
    have hk1:0<k:=by omega
    have b0:S.size+2<=9223372036854775807:=by omega
    have b1:S.size+2+s.length<=9223372036854775807:=by omega
    clear hs
    go_wp2_with fail
    go_round
    case rel=>exact⟨k+1,_,by omega,rfl,by go_num,by simp only[ByteArray.size_append];omega,Lib.hid (by rw[E0.out];simp [HS.out])⟩
    case measure=>simp [intOf];omega
  ·obtain rfl:k=hn:=by omega
   have hs:=HS.out
   rw[List.take_of_length_le (by rw[HHN.out];exact Nat.le_refl _)] at hs
   generalize hJ1:Lib.join (hd.map id) [44,32]=J1 at *
   have HJ1:=Lib.hid hJ1
   clear hJ1
   have HS1:=Lib.hid hs
   have b1:S.size+5<=9223372036854775807:=by omega
   have z5:(⟨#[41,32,58,45,32]⟩:ByteArray).size=5:=rfl
   clear hs
   go_wp2_with fail
   go_loopw [3,5] (fun s i wr=>∃ (j:Nat) (T:ByteArray),j<=n/\s=.string T/\i=.int .i64 j/\T.size<=562+1320 * j/\Hid (T.data.toList=nm.data.toList++[40]++J1++[41,32,58,45,32]++Lib.join ((al.take j).map atT) [44,32])/\Hid (Below w2.heap.size w2 wr)) (fun _ i _=>n - (intOf i).toNat)
   case atStart=>exact⟨0,S++⟨#[41,32,58,45,32]⟩,Nat.zero_le _,rfl,rfl,by rw[ByteArray.size_append,z5];omega,Lib.hid (by simp [HS1.out,Lib.join_nil]),Lib.hid (Below.refl _ _)⟩
   case round =>
    obtain⟨j,T,hj,rfl,rfl,hT,HT,HW⟩:=hrel
    obtain⟨wo,rfl⟩:∃ wo:World,wo=wr:=⟨_,rfl⟩
    have hxo:=HBX2.out.below HW.out HBX2.out.lt
    have x0:=hxo.cell 0
    have x1:=hxo.cell 1
    have x2:=hxo.cell 2
    have xl:=hxo.lt
    simp only[List.getElem?_toArray,List.getElem?_cons_zero,List.getElem?_cons_succ] at x0 x1 x2
    have hbw:=HB2.out.trans (HW.out.mono HB2.out.size)
    have HBW:=Lib.hid hbw
    have hzz:=HW.out.size
    clear hxo hbw
    by_cases hjn:j<n
    ·obtain⟨a,ha⟩:∃ a,al[j]? = some a:=⟨al[j]'(by rw[HN.out];exact hjn),List.getElem?_eq_getElem (by rw[HN.out];exact hjn)⟩
     obtain⟨b,off,cap',tv,hv',_,_,hbl,q0,q1,hrow,hal⟩:=(AtomsAt.keep HR.out HBW.out).get ha
     rw[HN.out] at hv'
     simp only[Value.slice.injEq,true_and] at hv'
     obtain⟨rfl,rfl⟩:=hv'
     have hma:=List.mem_of_getElem? ha
     have hsa:=HSA.out wo a tv hma hrow
     obtain⟨ta,tc,rfl,_,_⟩:=hrow.form
     rw[List.length_map] at *
     have hxx:=HAX.out a hma
     have z2:(⟨#[44,32]⟩:ByteArray).size=2:=rfl
     have hdk:decide ((j:Int)<0)=false:=by simp
     have hdn:decide ((n:Int)<=(j:Int))=false:=by simp;omega
     by_cases h0:j=0
     ·subst h0
      have e0:=take_join0 atT ha
      generalize atT a=word at *
      have E0:=Lib.hid e0
      have HSA2:=Lib.hid hsa
      have zc:(⟨word.toArray⟩:ByteArray).size=word.length:=by simp [ByteArray.size]
      have b1:T.size+word.length<=9223372036854775807:=by omega
      simp only[Nat.zero_mul,Nat.add_zero] at q0 q1
      clear e0 hsa ha hma hrow
      go_wp2_with fail
      refine HSA2.out.mono ?_
      rintro e w4 ⟨rfl,hb4⟩
      have HW4:=Lib.hid (HW.out.trans (hb4.mono hzz))
      clear hb4
      go_wp2_with fail
      go_roundw
      case rel=>exact⟨0+1,_,by omega,rfl,by go_num,by simp only[ByteArray.size_append];omega,Lib.hid (by rw[E0.out];simp [HT.out,Lib.join_nil]),HW4⟩
      case measure=>simp [intOf];omega
     ·have e0:=take_join atT ha h0
      generalize atT a=word at *
      have E0:=Lib.hid e0
      have HSA2:=Lib.hid hsa
      have zc:(⟨word.toArray⟩:ByteArray).size=word.length:=by simp [ByteArray.size]
      have hk0:decide ((0:Int)<(j:Int))=true:=by simp;omega
      have hk1:0<j:=by omega
      have b0:T.size+2<=9223372036854775807:=by omega
      have b1:T.size+2+word.length<=9223372036854775807:=by omega
      clear e0 hsa ha hma hrow
      go_wp2_with fail
      refine HSA2.out.mono ?_
      rintro e w4 ⟨rfl,hb4⟩
      have HW4:=Lib.hid (HW.out.trans (hb4.mono hzz))
      clear hb4
      go_wp2_with fail
      go_roundw
      case rel=>exact⟨j+1,_,by omega,rfl,by go_num,by simp only[ByteArray.size_append];omega,Lib.hid (by rw[E0.out];simp [HT.out]),HW4⟩
      case measure=>simp [intOf];omega
    ·obtain rfl:j=n:=by omega
     have hs:=HT.out
     rw[List.take_of_length_le (by rw[HN.out];exact Nat.le_refl _)] at hs
     have hcc:T=⟨(nm.data.toList++[40]++J1++[41,32,58,45,32]++Lib.join (al.map atT) [44,32]).toArray⟩:=by
      rw[<-hs]
     have HCC:=Lib.hid hcc
     clear hs hcc
     go_wp2_with fail
     go_ret
     refine⟨?_,HBW.out⟩
     rw[HJ1.out]
     exact (congrArg (fun x=>Ending.returned (Value.string x)) HCC.out).trans (by simp)
end Go.Proofs.YtgopfpjinohncaaGreatDoor
