/- osierref10.Show, walked. osierref10.Copy, walked. -/
import Derived.Test.YtamjadghncnbcaaGreatDoorRxT
import Derived.Test.YtamjadghncnbcaaGreatDoorLhT
import Derived.Test.YtamjadghncnbcaaGreatDoorBcT
import Derived.Test.YtamjadghncnbcaaGreatDoorDpT
import Derived.Test.YtamjadghncnbcaaGreatDoorGmT
import Derived.Test.YtamjadghncnbcaaGreatDoorCyT
import Derived.Deep.RegionLaw
namespace Go.Proofs.YtamjadghncnbcaaGreatDoor
open Go.RowKit
set_option linter.unusedVariables false
set_option maxHeartbeats 16000000 in
set_option maxRecDepth 100000 in
theorem refChgShow_any (w:World) (v:Value) (l:List Chg) (h:ChgsAt w v l) (hr:∀ c∈l,∀ u∈c.row,RangeV u) (hs:∀ c∈l,c.rel.length<=140737488355328) (hn:l.length<=1048576) :
 Calls Tryz.prog 70 #[v] w fun e w'=>e=.returned (.string ⟨(showBt l).toArray⟩)/\Below w.heap.size w w':=by
 have hnot:∀ (x:Bool) (w:World),(Op.unary .not (.bool x)).run Tryz.prog w=.ok (.bool (!x)) w:=fun _ _=>rfl
 obtain⟨ad,cap,rfl,hnc,hcm⟩:=h.form
 unfold maxLen at hcm
 have HR:=Lib.hid h
 have HRG:=Lib.hid hr
 have HSL:=Lib.hid hs
 have HBAD:=Lib.hid (fun c hc hb=>showBt_no (l:=l) (c:=c) hc hb)
 clear h hr hs
 generalize hN:l.length=n at *
 have HN:=Lib.hid hN
 clear hN
 go_enter Tryz.func70,Tryz.ntmps70
 go_wp2_with fail
 go_loopw [3,4] (fun s i wr=>∃ (k:Nat) (S:ByteArray),k<=n/\s=.string S/\i=.int .i64 k/\S.size<=7821 * k/\Hid ((l.take k).all goodC=true)/\Hid (S.data.toList=Lib.join ((l.take k).map chgT) [44,32])/\Hid (Below w.heap.size w wr)) (fun _ i _=>n - (intOf i).toNat)
 case atStart=>exact⟨0,⟨#[]⟩,Nat.zero_le _,rfl,rfl,by decide,Lib.hid rfl,Lib.hid (by simp [Lib.join_nil]),Lib.hid (Below.refl _ _)⟩
 case round =>
  obtain⟨k,S,hk,rfl,rfl,hS,AL,HS,BW⟩:=hrel
  obtain⟨wo,rfl⟩:∃ wo:World,wo=wr:=⟨_,rfl⟩
  by_cases hkn:k<n
  ·obtain⟨c,hc⟩:∃ c,l[k]? = some c:=⟨l[k]'(by rw[HN.out];exact hkn),List.getElem?_eq_getElem (by rw[HN.out];exact hkn)⟩
   obtain⟨b,off,cap',rv,hv,_,_,hbl,q0,q1,q2,hrow,hrl⟩:=(HR.out.keep BW.out).get hc
   rw[HN.out] at hv
   simp only[Value.slice.injEq,true_and] at hv
   obtain⟨rfl,rfl⟩:=hv
   obtain⟨ra,rc,rfl,_,_⟩:=hrow.form
   have hcm':=List.mem_of_getElem? hc
   have hall:=take_all_succ goodC hc
   rw[AL.out,Bool.true_and] at hall
   have hdk:decide ((k:Int)<0)=false:=by simp
   have hdn:decide ((n:Int)<=(k:Int))=false:=by simp;omega
   have hnm:=refName_any ⟨c.rel.toArray⟩ wo (by have:=HSL.out c hcm';have e:(⟨c.rel.toArray⟩:ByteArray).size=c.rel.length:=by simp [ByteArray.size]
                                                omega)
   have hvl:=refRowValid_any wo _ c.row hrow
   have hso:=fun W (hW:Below wo.heap.size wo W)=>refRowShow_any W _ c.row (hrow.keep hW) (HRG.out c hcm')
   rw[show (⟨c.rel.toArray⟩:ByteArray).data.toList=c.rel by simp] at hnm
   have HNM:=Lib.hid hnm
   have HVL:=Lib.hid hvl
   have HSO:=Lib.hid hso
   have HALL:=Lib.hid hall
   have HMEM:=Lib.hid hcm'
   have HCC:=Lib.hid hc
   have hgc:goodC c=(isNameB c.rel && rowB c.row):=rfl
   have HGC:=Lib.hid hgc
   clear hc hrow hnm hvl hso hall hcm' hgc
   generalize (c.row.map Vl.cells).length=rn at *
   cases hnb:isNameB c.rel with
   | false =>
     rw[hnb] at HNM
     have hbad:=HBAD.out c HMEM.out (by rw[HGC.out,hnb];rfl)
     have HBD:=Lib.hid hbad
     clear hbad
     go_wp2_with fail
     refine HNM.out.mono ?_
     rintro e w6 ⟨rfl,rfl⟩
     go_wp2_with fail
     go_ret
     exact⟨by rw[HBD.out];rfl,BW.out⟩
   | true =>
     rw[hnb] at HNM
     cases hrb:rowB c.row with
     | false =>
       rw[hrb] at HVL
       have hbad:=HBAD.out c HMEM.out (by rw[HGC.out,hnb,hrb];rfl)
       have HBD:=Lib.hid hbad
       clear hbad
       go_wp2_with fail
       refine HNM.out.mono ?_
       rintro e w6 ⟨rfl,rfl⟩
       go_wp2_with fail
       refine HVL.out.mono ?_
       rintro e w7 ⟨rfl,hb7⟩
       have HB7:=Lib.hid (BW.out.trans (hb7.mono BW.out.size))
       clear hb7
       go_wp2_with fail
       go_ret
       exact⟨by rw[HBD.out];rfl,HB7.out⟩
     | true =>
       rw[hrb] at HVL
       have hgood:goodC c=true:=by rw[HGC.out,hnb,hrb];rfl
       have HGD:=Lib.hid hgood
       have hsz:=(rowT_size hrb (HRG.out c HMEM.out)).2
       have hnl:=(name_len16 hnb).2
       have hst:showRow c.row=rowT0 c.row:=by unfold showRow;rw[if_pos hrb]
       have hso:=HSO.out
       rw[hst] at hso
       have HSO2:=Lib.hid hso
       have hct:chgT c=(if c.add=true then 43 else 45)::(c.rel++rowT0 c.row):=rfl
       have HCT:=Lib.hid hct
       have zr:(⟨c.rel.toArray⟩:ByteArray).size=c.rel.length:=by simp [ByteArray.size]
       have zt:(⟨(rowT0 c.row).toArray⟩:ByteArray).size=(rowT0 c.row).length:=by simp [ByteArray.size]
       have z2:(⟨#[44,32]⟩:ByteArray).size=2:=rfl
       have z43:(⟨#[43]⟩:ByteArray).size=1:=rfl
       have z45:(⟨#[45]⟩:ByteArray).size=1:=rfl
       clear hgood hst hso HSO hct
       have HJ0:Hid (k=0->Lib.join ((l.take (k+1)).map chgT) [44,32]=chgT c):=Lib.hid (fun h0=>by subst h0;exact take_joinJ0 chgT HCC.out)
       have HJ:=Lib.hid (fun (h0:k≠0)=>take_joinJ chgT HCC.out h0)
       generalize rowT0 c.row=T at *
       generalize c.rel=R at *
       have b2:R.length+T.length<=9223372036854775807:=by omega
       have n2:¬ 9223372036854775807<R.length+T.length:=by omega
       by_cases h0:k=0
       ·have hk0:decide ((0:Int)<(k:Int))=false:=by simp [h0]
        have hk1:¬ ((0:Int)<(k:Int)):=by omega
        have H0:=Lib.hid h0
        clear h0
        cases hadd:c.add with
        | true =>
          rw[hadd] at q0
          have b1:S.size+1<=9223372036854775807:=by omega
          have b3:S.size+1+(R.length+T.length)<=9223372036854775807:=by omega
          have n3:¬ 9223372036854775807<S.size+1+(R.length+T.length):=by omega
          go_wp2_with fail
          refine HNM.out.mono ?_
          rintro e w6 ⟨rfl,rfl⟩
          go_wp2_with fail
          refine HVL.out.mono ?_
          rintro e w7 ⟨rfl,hb7⟩
          have q07:=(hb7.cell (p:=⟨b,off+k * 3,none⟩) hbl).trans q0
          have q17:=(hb7.cell (p:=⟨b,off+k * 3+1,none⟩) hbl).trans q1
          have q27:=(hb7.cell (p:=⟨b,off+k * 3+2,none⟩) hbl).trans q2
          have hbl7:=Nat.lt_of_lt_of_le hbl hb7.size
          have HB7:=Lib.hid hb7
          clear hb7
          go_wp2_with fail
          first
           | go_region_law (go_simp;go_at_call 72;refine (HSO2.out _ (bt2 HB7.out (bdrew (Below.refl _ _)))).mono ?_;rintro e w8 ⟨rfl,hb8⟩;have B8:Below wo.heap.size wo w8:=bt2 HB7.out (bt2 (bdrew (Below.refl _ _)) hb8);have q18:=(B8.cell (p:=⟨b,off+k * 3+1,none⟩) hbl).trans q1;have hbl8:=Nat.lt_of_lt_of_le hbl B8.size;have HB8:=Lib.hid B8;clear hb8 B8)
           | fail "no way"
          all_goals
           go_wp2_with fail
           go_roundw
           case rel=>exact⟨k+1,_,by omega,rfl,by go_num,by simp only[ByteArray.size_append];omega,Lib.hid (HALL.out.trans HGD.out),Lib.hid (by rw[HJ0.out H0.out,HCT.out];simp [HS.out,hadd,Lib.join_nil,H0.out]),Lib.hid (BW.out.trans (HB8.out.mono BW.out.size))⟩
           case measure=>simp [intOf];omega
        | false =>
          rw[hadd] at q0
          have b1:S.size+1<=9223372036854775807:=by omega
          have b3:S.size+1+(R.length+T.length)<=9223372036854775807:=by omega
          have n3:¬ 9223372036854775807<S.size+1+(R.length+T.length):=by omega
          go_wp2_with fail
          refine HNM.out.mono ?_
          rintro e w6 ⟨rfl,rfl⟩
          go_wp2_with fail
          refine HVL.out.mono ?_
          rintro e w7 ⟨rfl,hb7⟩
          have q07:=(hb7.cell (p:=⟨b,off+k * 3,none⟩) hbl).trans q0
          have q17:=(hb7.cell (p:=⟨b,off+k * 3+1,none⟩) hbl).trans q1
          have q27:=(hb7.cell (p:=⟨b,off+k * 3+2,none⟩) hbl).trans q2
          have hbl7:=Nat.lt_of_lt_of_le hbl hb7.size
          have HB7:=Lib.hid hb7
          clear hb7
          go_wp2_with fail
          first
           | go_region_law (go_simp;go_at_call 72;refine (HSO2.out _ (bt2 HB7.out (bdrew (Below.refl _ _)))).mono ?_;rintro e w8 ⟨rfl,hb8⟩;have B8:Below wo.heap.size wo w8:=bt2 HB7.out (bt2 (bdrew (Below.refl _ _)) hb8);have q18:=(B8.cell (p:=⟨b,off+k * 3+1,none⟩) hbl).trans q1;have hbl8:=Nat.lt_of_lt_of_le hbl B8.size;have HB8:=Lib.hid B8;clear hb8 B8)
           | fail "no way"
          all_goals
           go_wp2_with fail
           go_roundw
           case rel=>exact⟨k+1,_,by omega,rfl,by go_num,by simp only[ByteArray.size_append];omega,Lib.hid (HALL.out.trans HGD.out),Lib.hid (by rw[HJ0.out H0.out,HCT.out];simp [HS.out,hadd,Lib.join_nil,H0.out]),Lib.hid (BW.out.trans (HB8.out.mono BW.out.size))⟩
           case measure=>simp [intOf];omega
       ·have hk0:decide ((0:Int)<(k:Int))=true:=by simp;omega
        have hk1:(0:Int)<(k:Int):=by omega
        have H0:=Lib.hid h0
        clear h0
        cases hadd:c.add with
        | true =>
          rw[hadd] at q0
          have b0:S.size+2<=9223372036854775807:=by omega
          have b1:S.size+2+1<=9223372036854775807:=by omega
          have b3:S.size+2+1+(R.length+T.length)<=9223372036854775807:=by omega
          have n3:¬ 9223372036854775807<S.size+2+1+(R.length+T.length):=by omega
          go_wp2_with fail
          refine HNM.out.mono ?_
          rintro e w6 ⟨rfl,rfl⟩
          go_wp2_with fail
          refine HVL.out.mono ?_
          rintro e w7 ⟨rfl,hb7⟩
          have q07:=(hb7.cell (p:=⟨b,off+k * 3,none⟩) hbl).trans q0
          have q17:=(hb7.cell (p:=⟨b,off+k * 3+1,none⟩) hbl).trans q1
          have q27:=(hb7.cell (p:=⟨b,off+k * 3+2,none⟩) hbl).trans q2
          have hbl7:=Nat.lt_of_lt_of_le hbl hb7.size
          have HB7:=Lib.hid hb7
          clear hb7
          go_wp2_with fail
          first
           | go_region_law (go_simp;go_at_call 72;refine (HSO2.out _ (bt2 HB7.out (bdrew (Below.refl _ _)))).mono ?_;rintro e w8 ⟨rfl,hb8⟩;have B8:Below wo.heap.size wo w8:=bt2 HB7.out (bt2 (bdrew (Below.refl _ _)) hb8);have q18:=(B8.cell (p:=⟨b,off+k * 3+1,none⟩) hbl).trans q1;have hbl8:=Nat.lt_of_lt_of_le hbl B8.size;have HB8:=Lib.hid B8;clear hb8 B8)
           | fail "no way"
          all_goals
           go_wp2_with fail
           go_roundw
           case rel=>exact⟨k+1,_,by omega,rfl,by go_num,by simp only[ByteArray.size_append];omega,Lib.hid (HALL.out.trans HGD.out),Lib.hid (by rw[HJ.out H0.out,HCT.out];simp [HS.out,hadd]),Lib.hid (BW.out.trans (HB8.out.mono BW.out.size))⟩
           case measure=>simp [intOf];omega
        | false =>
          rw[hadd] at q0
          have b0:S.size+2<=9223372036854775807:=by omega
          have b1:S.size+2+1<=9223372036854775807:=by omega
          have b3:S.size+2+1+(R.length+T.length)<=9223372036854775807:=by omega
          have n3:¬ 9223372036854775807<S.size+2+1+(R.length+T.length):=by omega
          go_wp2_with fail
          refine HNM.out.mono ?_
          rintro e w6 ⟨rfl,rfl⟩
          go_wp2_with fail
          refine HVL.out.mono ?_
          rintro e w7 ⟨rfl,hb7⟩
          have q07:=(hb7.cell (p:=⟨b,off+k * 3,none⟩) hbl).trans q0
          have q17:=(hb7.cell (p:=⟨b,off+k * 3+1,none⟩) hbl).trans q1
          have q27:=(hb7.cell (p:=⟨b,off+k * 3+2,none⟩) hbl).trans q2
          have hbl7:=Nat.lt_of_lt_of_le hbl hb7.size
          have HB7:=Lib.hid hb7
          clear hb7
          go_wp2_with fail
          first
           | go_region_law (go_simp;go_at_call 72;refine (HSO2.out _ (bt2 HB7.out (bdrew (Below.refl _ _)))).mono ?_;rintro e w8 ⟨rfl,hb8⟩;have B8:Below wo.heap.size wo w8:=bt2 HB7.out (bt2 (bdrew (Below.refl _ _)) hb8);have q18:=(B8.cell (p:=⟨b,off+k * 3+1,none⟩) hbl).trans q1;have hbl8:=Nat.lt_of_lt_of_le hbl B8.size;have HB8:=Lib.hid B8;clear hb8 B8)
           | fail "no way"
          all_goals
           go_wp2_with fail
           go_roundw
           case rel=>exact⟨k+1,_,by omega,rfl,by go_num,by simp only[ByteArray.size_append];omega,Lib.hid (HALL.out.trans HGD.out),Lib.hid (by rw[HJ.out H0.out,HCT.out];simp [HS.out,hadd]),Lib.hid (BW.out.trans (HB8.out.mono BW.out.size))⟩
           case measure=>simp [intOf];omega
  ·obtain rfl:k=n:=by omega
   have hal:=AL.out
   rw[List.take_of_length_le (by rw[HN.out];exact Nat.le_refl _)] at hal
   have hs:=HS.out
   rw[List.take_of_length_le (by rw[HN.out];exact Nat.le_refl _)] at hs
   have hsb:S=⟨(showBt l).toArray⟩:=by
    unfold showBt
    rw[if_pos hal,<-hs]
   have HSB:=Lib.hid hsb
   clear hal hs hsb
   go_wp2_with fail
   go_ret
   exact⟨congrArg (fun x=>Ending.returned (Value.string x)) HSB.out,BW.out⟩
set_option maxHeartbeats 8000000 in
set_option maxRecDepth 100000 in
theorem copyB_any (w:World) (v:Value) (l:List Chg) (h:ChgsAt w v l) (hn:l.length<=2932031007402) :
 Calls Tryz.prog 30 #[v] w fun e w'=>∃ v',e=.returned v'/\ChgsOwn w.heap.size w' v' l/\Below w.heap.size w w':=by
 obtain⟨ic,hic,hc0,hc1,hc2⟩:=info_parts Tryz.infoChg
 obtain⟨ad,cap,rfl,hnc,hcm⟩:=h.form
 unfold maxLen at hcm
 have HR:=Lib.hid h
 clear h
 generalize hN:l.length=n at *
 have HN:=Lib.hid hN
 clear hN
 go_enter Tryz.func30,Tryz.ntmps30
 go_wp2_with (at_make;refine wpList_make_full _ rfl _ _ 30 rfl w.heap.size 51 ic (.agg #[.bool false,.string ⟨#[]⟩,.slice none 0 0]) 3 Tryz.underlying30 hic hc0 hc1 _ _ _ _ n rfl rfl rfl rfl ?b2 ?b3 ?b4 ?_)
 case b2=>first | omega | (rw[hc2];omega)
 case b3=>unfold maxLen;omega
 try (case b4=>omega)
 intro w5 hown5 hgrow5
 obtain⟨rows0,hr0,hr1,hr2⟩:=split_rows 3 n _ hown5.1
 rw[<-hr2] at hown5
 have hb5:Below w.heap.size w w5:=Below.grown (Below.refl _ _) hgrow5 (Nat.le_refl _) (fun q hq=>by cases hq)
 have HO5:=Lib.hid hown5
 have HB5:=Lib.hid hb5
 have HRL:=Lib.hid (And.intro hr0 hr1)
 clear hown5 hgrow5 hb5 hr0 hr1 hr2
 go_wp2_with fail
 go_loopw [4] (fun i wr=>∃ (k:Nat) (rows:List (List Value)),k<=n/\i=.int .i64 k/\Hid (wr.ownsRow w.heap.size 51 3 (.slice (some ⟨w.heap.size,0,none⟩) n n) n rows.flatten)/\Hid (rows.length=n/\∀ x∈rows,x.length=3)/\Hid (All2 (ChgO w.heap.size wr) (rows.take k) (l.take k))/\Hid (Below w.heap.size w wr)) (fun i _=>n - (intOf i).toNat)
 case atStart=>exact⟨0,rows0,Nat.zero_le _,rfl,HO5,HRL,Lib.hid trivial,HB5⟩
 case round =>
  obtain⟨k,rows,hk,rfl,OW,RL,AL,BW⟩:=hrel
  obtain⟨wo,rfl⟩:∃ wo:World,wo=wr:=⟨_,rfl⟩
  by_cases hkn:k<n
  ·obtain⟨c,hc⟩:∃ c,l[k]? = some c:=⟨l[k]'(by rw[HN.out];exact hkn),List.getElem?_eq_getElem (by rw[HN.out];exact hkn)⟩
   obtain⟨b,off,cap',rv,hv,_,_,hbl,q0,q1,q2,hrow,hrl⟩:=(HR.out.keep BW.out).get hc
   rw[HN.out] at hv
   simp only[Value.slice.injEq,true_and] at hv
   obtain⟨rfl,rfl⟩:=hv
   obtain⟨ra,rc,rfl,_,_⟩:=hrow.form
   have hdk:decide ((k:Int)<0)=false:=by simp
   have hdn:decide ((n:Int)<=(k:Int))=false:=by simp;omega
   have hcr:=fun W (hW:Below wo.heap.size wo W)=>copyRow_any W _ c.row (hrow.keep hW) hrl
   have HCR:=Lib.hid hcr
   have HCC:=Lib.hid hc
   have hbw:=BW.out.size
   clear hc hrow hcr
   generalize (c.row.map Vl.cells).length=rn at *
   go_wp2_with fail
   first
    | go_region_law (go_simp;go_at_call 100;refine (HCR.out _ (bdrew (Below.refl _ _))).mono ?_;rintro e w6 ⟨u6,rfl,hown6,hb6⟩;obtain⟨ua,uc,rfl⟩:=own_sl hown6;have B6:Below wo.heap.size wo w6:=bt2 (bdrew (Below.refl _ _)) hb6;have q06:=(B6.cell (p:=⟨b,off+k * 3,none⟩) hbl).trans q0;have q16:=(B6.cell (p:=⟨b,off+k * 3+1,none⟩) hbl).trans q1;have o6:=(MT.ofBelow (B:=0) (Ts:=[]) B6).ownsRow OW.out (by simp);obtain⟨⟨y0,hy0⟩,hz0,hgl⟩:=own_cell o6 hkn (j:=0) (by decide);obtain⟨⟨y1,hy1⟩,hz1,_⟩:=own_cell o6 hkn (j:=1) (by decide);obtain⟨⟨y2,hy2⟩,hz2,_⟩:=own_cell o6 hkn (j:=2) (by decide);simp only[Nat.add_zero] at hy0 hz0;have hbl6:=Nat.lt_of_lt_of_le hbl B6.size;have HO6:=Lib.hid o6;have HW6:=Lib.hid hown6;have HB6:=Lib.hid B6;clear o6 hown6 hb6 B6)
    | fail "no way"
   all_goals
    have hs:=own_set3 (a:=.bool c.add) (b:=.string ⟨c.rel.toArray⟩) (c:=.slice ua c.row.length uc) HO6.out RL.out.2 RL.out.1 hkn rfl rfl rfl
    have m6:=mt_own (Ts:=[51]) hs.2 HO6.out (by simp)
    have hall:∀ W',MT 0 [51] w6 W'->All2 (ChgO w.heap.size W') ((rows.set k [.bool c.add,.string ⟨c.rel.toArray⟩,.slice ua c.row.length uc]).take (k+1)) (l.take (k+1)):=by
     intro W' m6
     rw[set_take (by rw[RL.out.1];exact hkn),List.take_add_one,HCC.out]
     exact All2.snoc ⟨_,rfl,m6.ownsRow (World.ownsRow.low HW6.out hbw) (by decide)⟩ (AL.out.mono fun q a hh=>(hh.mt (MT.ofBelow (B:=0) (Ts:=[]) HB6.out) (by simp)).mt m6 (by decide))
    have HS:=Lib.hid hs.1
    have HAL:=Lib.hid (hall _ m6)
    have HB7:=Lib.hid (Mod.own (BW.out.trans (HB6.out.mono hbw)) hs.2 (Nat.le_refl _))
    clear hs m6 hall hy0 hy1 hy2 hz0 hz1 hz2
    go_wp2_with fail
    go_roundw
    case rel=>exact⟨k+1,_,by omega,by go_num,HS,Lib.hid ⟨by rw[List.length_set];exact RL.out.1,set_all RL.out.2 rfl⟩,HAL,HB7⟩
    case measure=>simp [intOf];omega
  ·obtain rfl:k=n:=by omega
   have hal:=AL.out
   rw[List.take_of_length_le (by rw[RL.out.1];exact Nat.le_refl _),List.take_of_length_le (by rw[HN.out];exact Nat.le_refl _)] at hal
   have HAL:=Lib.hid hal
   clear hal
   go_wp2_with fail
   go_ret
   exact⟨_,rfl,⟨rows,by rw[HN.out];exact OW.out,HAL.out⟩,BW.out⟩
end Go.Proofs.YtamjadghncnbcaaGreatDoor
