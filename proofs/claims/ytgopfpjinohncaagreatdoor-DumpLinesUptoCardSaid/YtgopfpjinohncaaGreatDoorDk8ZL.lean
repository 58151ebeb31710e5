/- osierref26.Check, walked (printed by mkdk8.py). -/
import Derived.Test.YtgopfpjinohncaaGreatDoorDc9ZL
import Derived.Test.YtgopfpjinohncaaGreatDoorKfL
import Derived.Test.YtgopfpjinohncaaGreatDoorCiL
import Derived.Test.YtgopfpjinohncaaGreatDoorQvL
import Derived.Test.YtgopfpjinohncaaGreatDoorSkgZL
namespace Go.Proofs.YtgopfpjinohncaaGreatDoor
open Go.RowKit
set_option linter.unusedVariables false
set_option maxHeartbeats 16000000 in
set_option maxRecDepth 100000 in
theorem refDCheck_any (w:World) (rv tv qv:Value) (rels:List Rln) (data:List Tbl) (qs:List Qry) (hR:RelsAt w rv rels) (hT:TblsAt w tv data) (hQ:QrysAt w qv qs) (bR:RlnB rels) (bQ:∀ q∈qs,QryB q) :
 Calls Tryz.prog 34 #[rv,tv,qv] w fun e w'=>e=.returned (.int .i64 (chkD rels data qs))/\Below w.heap.size w w':=by
 obtain⟨ra,rc,rfl,hrn,hrm⟩:=hR.form
 obtain⟨ta,tc,rfl,htn,htm⟩:=hT.form
 obtain⟨qa,qc,rfl,hqn,hqm⟩:=hQ.form
 unfold maxLen at hrm htm hqm
 have HR:=Lib.hid hR
 have HT:=Lib.hid hT
 have HQ:=Lib.hid hQ
 have BR:=Lib.hid bR
 have BQ:=Lib.hid bQ
 obtain⟨RES,hRES⟩:∃ RES,RES=chkD rels data qs:=⟨_,rfl⟩
 rw[<-hRES]
 have HD:=Lib.hid hRES
 clear hR hT hQ bR bQ hRES
 generalize hN:rels.length=n at *
 generalize hM:data.length=m at *
 generalize hK:qs.length=qn at *
 have HN:=Lib.hid hN
 have HM:=Lib.hid hM
 have HK:=Lib.hid hK
 clear hN hM hK
 go_enter Tryz.func34,Tryz.ntmps34
 go_wp2_with fail
 go_loopw [7] (fun i wr=>∃ j:Nat,j<=n/\i=.int .i64 j/\Hid (RES=if chkRl (rels.take j) (rels.drop j)≠0 then chkRl (rels.take j) (rels.drop j) else if chkTb rels data≠0 then chkTb rels data else chkQl [] qs)/\Hid (chkRl [] rels=chkRl (rels.take j) (rels.drop j))/\Hid (Below w.heap.size w wr)) (fun i _=>n - (intOf i).toNat)
 case atStart=>exact⟨0,Nat.zero_le _,rfl,HD,Lib.hid rfl,Lib.hid (Below.refl _ _)⟩
 case round =>
  obtain⟨j,hj,rfl,HP,HP0,BW⟩:=hrel
  obtain⟨wo,rfl⟩:∃ wo:World,wo=wr:=⟨_,rfl⟩
  by_cases hlt:j<n
  ·obtain⟨r,hr⟩:∃ r,rels[j]? = some r:=⟨rels[j]'(by rw[HN.out];exact hlt),List.getElem?_eq_getElem (by rw[HN.out];exact hlt)⟩
   have hq:=HP.out
   have hq0:=HP0.out
   rw[chkRl_at hr,<-plI_pre hr] at hq hq0
   obtain⟨b1,o1,c1,cv,hv1,_,_,hl1,q0,q1,hcols,hcn⟩:=(HR.out.keep BW.out).get hr
   rw[HN.out] at hv1
   simp only[Value.slice.injEq,true_and] at hv1
   obtain⟨rfl,rfl⟩:=hv1
   have hbr:=BR.out r (List.mem_of_getElem? hr)
   have hdk:decide ((j:Int)<0)=false:=by simp
   have hdn:decide ((n:Int)<=(j:Int))=false:=by simp;omega
   have hdl:decide ((j:Int)<(n:Int))=true:=by simp;omega
   have hck:=refCheck_any wo ⟨r.name.toArray⟩ _ r.cols hcols (by show r.name.length<=_;omega) (fun c hc=>by have:=hbr.2 c hc;omega)
   have htk:=fun W (hW:Below w.heap.size w W)=>refPlace_any W (.slice (some ⟨b1,o1,none⟩) n rc) rels ⟨r.name.toArray⟩ (HR.out.keep hW)
   have hn0:(⟨r.name.toArray⟩:ByteArray).data.toList=r.name:=rfl
   rw[hn0] at hck htk
   obtain⟨ca,cc,rfl,_,_⟩:=hcols.form
   have HCK:=Lib.hid hck
   have HTK:=Lib.hid htk
   have HQQ:=Lib.hid hq
   have HQ0:=Lib.hid hq0
   clear hck htk hcols hr hq hq0 hbr hn0
   generalize r.cols.length=rn at *
   generalize plI rels r.name=pl at *
   generalize chkC r.name r.cols=ck at *
   generalize r.name.toArray=nm at *
   by_cases hc0:ck=0
   ·have hce:(ck != 0)=false:=by simp [hc0]
    have hq:=HQQ.out
    have hq0:=HQ0.out
    rw[if_z hc0] at hq hq0
    subst hc0
    have HQ3:=Lib.hid hq
    have HQ4:=Lib.hid hq0
    clear hq hq0 HQQ HQ0
    go_wp2_with fail
    refine HCK.out.mono ?_
    rintro e w2 ⟨rfl,hb2⟩
    have HB2:=Lib.hid (BW.out.trans (hb2.mono BW.out.size))
    have HT2:=Lib.hid (HTK.out _ HB2.out)
    replace q0:=(hb2.cell (p:=⟨b1,o1+j * 2,none⟩) hl1).trans q0
    replace hl1:=Nat.lt_of_lt_of_le hl1 hb2.size
    clear hb2 q1
    go_wp2_with fail
    refine HT2.out.mono ?_
    rintro e w3 ⟨rfl,hb3⟩
    have HB3:=Lib.hid (HB2.out.trans (hb3.mono HB2.out.size))
    clear hb3 q0
    cases hpj:decide (pl<(j:Int)) with
    | true =>
      have hq:=HQ3.out
      rw[hpj,if_pos rfl,if_pos (by decide)] at hq
      subst hq
      go_wp2_with fail
      go_ret
      exact⟨rfl,HB3.out⟩
    | false =>
      have hq:=HQ3.out
      have hq0:=HQ4.out
      rw[hpj,if_neg (show ¬ (false=true) by decide)] at hq hq0
      have HQ5:=Lib.hid hq
      have HQ6:=Lib.hid hq0
      clear hq hq0
      go_wp2_with fail
      go_roundw
      case rel=>exact⟨j+1,by omega,by go_num,HQ5,HQ6,HB3⟩
      case measure=>simp [intOf];omega
   ·have hce:(ck != 0)=true:=by simpa using hc0
    have hq:=HQQ.out
    rw[if_nz hc0,if_nz hc0] at hq
    subst hq
    go_wp2_with fail
    refine HCK.out.mono ?_
    rintro e w2 ⟨rfl,hb2⟩
    have HB2:=Lib.hid (BW.out.trans (hb2.mono BW.out.size))
    clear hb2 q0 q1
    go_wp2_with fail
    go_ret
    exact⟨rfl,HB2.out⟩
  ·obtain rfl:j=n:=by omega
   have hq:=HP.out
   have hq0:=HP0.out
   rw[List.drop_of_length_le (by rw[HN.out];exact Nat.le_refl _)] at hq hq0
   rw[show chkRl (rels.take j) []=0 from rfl] at hq hq0
   rw[if_z (show (0:Int)=0 from rfl)] at hq
   have HD2:=Lib.hid hq
   have HCOL:=Lib.hid (chkRl_cols hq0)
   have hdl0:decide ((j:Int)<(j:Int))=false:=by simp
   clear hq hq0 HP HP0
   go_wp2_with fail
   clear hdl0
   go_loopw [9] (fun i wr=>∃ k:Nat,k<=m/\i=.int .i64 k/\Hid (RES=if chkTb rels (data.drop k)≠0 then chkTb rels (data.drop k) else chkQl [] qs)/\Hid (Below w.heap.size w wr)) (fun i _=>m - (intOf i).toNat)
   case atStart=>exact⟨0,Nat.zero_le _,rfl,HD2,BW⟩
   clear HD2 BW
   case round =>
    obtain⟨k,hk,rfl,HP,BW⟩:=hrel
    obtain⟨wp,rfl⟩:∃ wp:World,wp=wr:=⟨_,rfl⟩
    by_cases hkt:k<m
    ·obtain⟨t,ht⟩:∃ t,data[k]? = some t:=⟨data[k]'(by rw[HM.out];exact hkt),List.getElem?_eq_getElem (by rw[HM.out];exact hkt)⟩
     have hq:=HP.out
     rw[chkTb_at ht] at hq
     obtain⟨b1,o1,c1,tv,hv1,_,_,hl0,z0,z1,hrows⟩:=HT.out.get ht
     rw[HM.out] at hv1
     simp only[Value.slice.injEq,true_and] at hv1
     obtain⟨rfl,rfl⟩:=hv1
     obtain⟨xa,xc,rfl,hxn,hxm⟩:=hrows.form
     unfold maxLen at hxm
     have hdk:decide ((k:Int)<0)=false:=by simp
     have hdn:decide ((m:Int)<=(k:Int))=false:=by simp;omega
     have hdl:decide ((k:Int)<(m:Int))=true:=by simp;omega
     have hpl:=refPlace_any wp (.slice ra j rc) rels ⟨t.rel.toArray⟩ (HR.out.keep BW.out)
     have hn0:(⟨t.rel.toArray⟩:ByteArray).data.toList=t.rel:=rfl
     rw[hn0] at hpl
     have HPL:=Lib.hid hpl
     have HRW:=Lib.hid hrows
     have HQQ:=Lib.hid hq
     obtain⟨rn,hrn'⟩:∃ rn,t.rows.length=rn:=⟨_,rfl⟩
     rw[hrn'] at HRW hxn z1
     have HRN:=Lib.hid hrn'
     have HZ:=Lib.hid (And.intro z0 (And.intro z1 hl0))
     have q0:=(BW.out.cell (p:=⟨b1,o1+k * 2,none⟩) hl0).trans z0
     have hl1:=Nat.lt_of_lt_of_le hl0 BW.out.size
     have hFT:=fun W (hW:Below w.heap.size w W) zv z hz=>refFits_any W (.slice ra j rc) zv rels ⟨t.rel.toArray⟩ z (HR.out.keep hW) hz
     rw[hn0] at hFT
     have HFT:=Lib.hid hFT
     clear hpl hrows ht hq hrn' z0 z1 hl0 hn0 hFT
     rcases plI_range rels t.rel with hp | ⟨i,r,hp,hr,hrnm⟩
     ·have hq:=HQQ.out
      rw[tbOk_none hp,if_nz (show (86:Int)≠0 by decide),if_nz (show (86:Int)≠0 by decide)] at hq
      subst hq
      rw[hp] at HPL
      clear hp
      go_wp2_with fail
      refine HPL.out.mono ?_
      rintro e w2 ⟨rfl,hb2⟩
      have HB2:=Lib.hid (BW.out.trans (hb2.mono BW.out.size))
      clear hb2 q0
      go_wp2_with fail
      go_ret
      exact⟨rfl,HB2.out⟩
     have HP9:=Lib.hid (show 0<=plI rels t.rel by omega)
     rw[hp] at HPL
     have hdi:decide ((i:Int)<0)=false:=by simp
     clear hp hr hrnm
     go_wp2_with fail
     refine HPL.out.mono ?_
     rintro e w2 ⟨rfl,hb2⟩
     have HB2:=Lib.hid (BW.out.trans (hb2.mono BW.out.size))
     clear hb2 q0 hdi hl1
     go_wp2_with fail
     go_loopw [10] (fun i wr=>∃ p:Nat,p<=rn/\i=.int .i64 p/\Hid (∀ z∈t.rows.take p,fitD rels t.rel z=0)/\Hid (Below w.heap.size w wr)) (fun i _=>rn - (intOf i).toNat)
     case atStart=>exact⟨0,Nat.zero_le _,rfl,Lib.hid (by simp),HB2⟩
     clear HB2
     case round =>
      obtain⟨p,hp,rfl,HF,HB⟩:=hrel
      obtain⟨wi,rfl⟩:∃ wi:World,wi=wr:=⟨_,rfl⟩
      have q0:=(HB.out.cell (p:=⟨b1,o1+k * 2,none⟩) HZ.out.2.2).trans HZ.out.1
      have q1:=(HB.out.cell (p:=⟨b1,o1+k * 2+1,none⟩) HZ.out.2.2).trans HZ.out.2.1
      have hl1:=Nat.lt_of_lt_of_le HZ.out.2.2 HB.out.size
      by_cases hpr:p<rn
      ·obtain⟨z,hz⟩:∃ z,t.rows[p]? = some z:=⟨t.rows[p]'(by rw[HRN.out];exact hpr),List.getElem?_eq_getElem (by rw[HRN.out];exact hpr)⟩
       obtain⟨b2,o2,c2,zv,hv2,_,_,hl2,y0,hzr,_⟩:=(HRW.out.keep HB.out).get hz
       rw[HRN.out] at hv2
       simp only[Value.slice.injEq,true_and] at hv2
       obtain⟨rfl,rfl⟩:=hv2
       simp only[Nat.mul_one] at y0
       have hdp:decide ((p:Int)<0)=false:=by simp
       have hdp2:decide ((rn:Int)<=(p:Int))=false:=by simp;omega
       have hdp3:decide ((p:Int)<(rn:Int))=true:=by simp;omega
       have HFF:=Lib.hid (fun W (hW:Below wi.heap.size wi W)=>HFT.out W (HB.out.trans (hW.mono HB.out.size)) zv z (RowAt.keep hzr hW))
       obtain⟨za,zc,rfl,_,_⟩:=hzr.form
       rw[List.length_map] at y0 HFF
       obtain⟨zn,hzn⟩:∃ zn,z.length=zn:=⟨_,rfl⟩
       rw[hzn] at y0 HFF
       have HZZ:=Lib.hid hz
       have HSF:=Lib.hid (show wi.cell? ⟨b1,o1+k * 2,none⟩=some (.string ⟨t.rel.toArray⟩)/\wi.cell? ⟨b1,o1+k * 2+1,none⟩=some (.slice (some ⟨b2,o2,none⟩) rn xc)/\wi.cell? ⟨b2,o2+p,none⟩=some (.slice za zn zc)/\b1<wi.heap.size/\b2<wi.heap.size from ⟨q0,q1,y0,hl1,hl2⟩)
       obtain⟨fd,hfd⟩:∃ fd,fitD rels t.rel z=fd:=⟨_,rfl⟩
       rw[hfd] at HFF
       have HFD:=Lib.hid hfd
       clear hz hzr hzn hfd
       go_upto_region 17 with fail
       clear q0 y0 q1
       obtain⟨SS,hSS⟩:∃ SS:World->Prop,SS=fun W=>W.cell? ⟨b1,o1+k * 2,none⟩=some (.string ⟨t.rel.toArray⟩)/\W.cell? ⟨b1,o1+k * 2+1,none⟩=some (.slice (some ⟨b2,o2,none⟩) rn xc)/\W.cell? ⟨b2,o2+p,none⟩=some (.slice za zn zc)/\b1<W.heap.size/\b2<W.heap.size:=⟨_,rfl⟩
       have HSC:=Lib.hid (fun W (q:SS W)=>(by rw[hSS] at q;exact q:W.cell? ⟨b1,o1+k * 2,none⟩=some (.string ⟨t.rel.toArray⟩)/\W.cell? ⟨b1,o1+k * 2+1,none⟩=some (.slice (some ⟨b2,o2,none⟩) rn xc)/\W.cell? ⟨b2,o2+p,none⟩=some (.slice za zn zc)/\b1<W.heap.size/\b2<W.heap.size))
       have HSI:=Lib.hid (fun W (q:W.cell? ⟨b1,o1+k * 2,none⟩=some (.string ⟨t.rel.toArray⟩)/\W.cell? ⟨b1,o1+k * 2+1,none⟩=some (.slice (some ⟨b2,o2,none⟩) rn xc)/\W.cell? ⟨b2,o2+p,none⟩=some (.slice za zn zc)/\b1<W.heap.size/\b2<W.heap.size)=>(by rw[hSS];exact q:SS W))
       clear hSS
       have HSS:SS wi.drew:=HSI.out _ (HSF.out)
       refine wp_region_held_drew (by kernel_rfl) HSS (fun _=>?_)
       refine Held.tk 0 62 HSS ?_
       refine Held.tk 1 63 HSS ?_
       refine Held.tk 2 64 HSS ?_
       refine Held.tk 3 65 HSS ?_
       refine Held.tk 4 66 HSS ?_
       refine Held.tk 5 67 HSS ?_
       refine Held.tk 6 68 HSS ?_
       refine Held.tk 7 69 HSS ?_
       refine Held.tk 8 70 HSS ?_
       refine Held.tk 9 71 HSS ?_
       refine Held.tk 10 72 HSS ?_
       refine Held.on 11 (fun K hK=>?_)
       go_simp
       refine hK.out _ _ HSS ?_
       clear hK K
       try simp only[List.setIfInBounds_toArray,List.set_cons_succ,List.set_cons_zero]
       refine Held.on 12 (fun K hK=>?_)
       go_simp
       refine hK.out _ _ HSS ?_
       clear hK K
       try simp only[List.setIfInBounds_toArray,List.set_cons_succ,List.set_cons_zero]
       refine Held.tk 13 75 HSS ?_
       refine Held.on 14 (fun K hK=>?_)
       go_simp
       refine (HFF.out _ (bdrew (Below.refl _ _))).mono ?_
       rintro e w6 ⟨rfl,hb6⟩
       have hb7:Below wi.heap.size wi w6:=bt2 (bdrew (Below.refl _ _)) hb6
       have HB7:=Lib.hid (HB.out.trans (hb7.mono HB.out.size))
       clear HSS
       have HSS:=HSI.out w6 ⟨(hb7.cell (p:=⟨b1,o1+k * 2,none⟩) HSF.out.2.2.2.1).trans HSF.out.1,(hb7.cell (p:=⟨b1,o1+k * 2+1,none⟩) HSF.out.2.2.2.1).trans HSF.out.2.1,(hb7.cell (p:=⟨b2,o2+p,none⟩) HSF.out.2.2.2.2).trans HSF.out.2.2.1,Nat.lt_of_lt_of_le HSF.out.2.2.2.1 hb7.size,Nat.lt_of_lt_of_le HSF.out.2.2.2.2 hb7.size⟩
       refine hK.out _ _ HSS ?_
       clear hK K hb6 hb7 HFF
       try simp only[List.setIfInBounds_toArray,List.set_cons_succ,List.set_cons_zero]
       refine Held.tk 15 11 HSS ?_
       refine wpAnyH_done (by kernel_rfl) ?_ _
       clear HSS HSC HSI
       by_cases hf0:fd=0
       ·have hfe:(fd != 0)=false:=by simp [hf0]
        go_wp2_with fail
        go_roundw
        case rel =>
         refine⟨p+1,by omega,by go_num,Lib.hid (fun y hy=>?_),HB7⟩
         rw[List.take_add_one,HZZ.out] at hy
         rcases List.mem_append.1 hy with hy | hy
         ·exact HF.out y hy
         ·obtain rfl:y=z:=by simpa using hy
          exact HFD.out.trans hf0
        case measure=>simp [intOf];omega
       ·have hfe:(fd != 0)=true:=by simpa using hf0
        have hq:=HQQ.out
        have hto:=tbOk_hit HCOL.out (List.mem_of_getElem? HZZ.out) (by rw[HFD.out];exact hf0)
        rw[hto,HFD.out,if_nz hf0,if_nz hf0] at hq
        subst hq
        clear hto
        go_wp2_with fail
        go_ret
        exact⟨rfl,HB7.out⟩
      ·obtain rfl:p=rn:=by omega
       have hq:=HQQ.out
       have hf:=HF.out
       rw[List.take_of_length_le (by rw[HRN.out];exact Nat.le_refl _)] at hf
       rw[if_z (tbOk_ok HCOL.out HP9.out hf)] at hq
       have HQ2:=Lib.hid hq
       have hdp3:decide ((p:Int)<(p:Int))=false:=by simp
       clear hq hf
       go_wp2_with fail
       go_roundw
       case rel=>exact⟨k+1,by omega,by go_num,HQ2,HB⟩
       case measure=>simp [intOf];omega
    ·obtain rfl:k=m:=by omega
     have hq:=HP.out
     rw[List.drop_of_length_le (by rw[HM.out];exact Nat.le_refl _),show chkTb rels []=0 from rfl,if_z (show (0:Int)=0 from rfl)] at hq
     have HD3:=Lib.hid hq
     have hdl0:decide ((k:Int)<(k:Int))=false:=by simp
     clear hq HP
     go_wp2_with fail
     clear hdl0
     go_loopw [12] (fun i wr=>∃ p:Nat,p<=qn/\i=.int .i64 p/\Hid (RES=chkQl (qs.take p) (qs.drop p))/\Hid (Below w.heap.size w wr)) (fun i _=>qn - (intOf i).toNat)
     case atStart=>exact⟨0,Nat.zero_le _,rfl,HD3,BW⟩
     clear HD3 BW
     case round =>
      obtain⟨p,hp,rfl,HP,BW⟩:=hrel
      obtain⟨wp,rfl⟩:∃ wp:World,wp=wr:=⟨_,rfl⟩
      by_cases hpq:p<qn
      ·obtain⟨q,hq9⟩:∃ q,qs[p]? = some q:=⟨qs[p]'(by rw[HK.out];exact hpq),List.getElem?_eq_getElem (by rw[HK.out];exact hpq)⟩
       have hq:=HP.out
       rw[chkQl_at hq9] at hq
       obtain⟨b1,o1,c1,hv,av,hv1,_,_,hl0,z0,z1,z2,hh,ha⟩:=HQ.out.get hq9
       rw[HK.out] at hv1
       simp only[Value.slice.injEq,true_and] at hv1
       obtain⟨rfl,rfl⟩:=hv1
       have hbq:=BQ.out q (List.mem_of_getElem? hq9)
       have hsh:=refShape_any wp ⟨q.name.toArray⟩ hv av q.head q.atoms (RowAt.keep hh BW.out) (ha.keep BW.out) (by have:=hbq.name;show q.name.length<=_;omega) (fun s hs=>by have:=hbq.heads s hs;omega) hbq.lens
       have hn0:chkQ ⟨(⟨q.name.toArray⟩:ByteArray).data.toList,q.head,q.atoms⟩=chkQ q:=rfl
       rw[hn0] at hsh
       obtain⟨ha1,hc1,rfl,_,_⟩:=hh.form
       obtain⟨aa1,ac1,rfl,_,_⟩:=ha.form
       have hdk:decide ((p:Int)<0)=false:=by simp
       have hdn:decide ((qn:Int)<=(p:Int))=false:=by simp;omega
       have hdl:decide ((p:Int)<(qn:Int))=true:=by simp;omega
       have q0:=(BW.out.cell (p:=⟨b1,o1+p * 3,none⟩) hl0).trans z0
       have q1:=(BW.out.cell (p:=⟨b1,o1+p * 3+1,none⟩) hl0).trans z1
       have q2:=(BW.out.cell (p:=⟨b1,o1+p * 3+2,none⟩) hl0).trans z2
       have hl1:=Nat.lt_of_lt_of_le hl0 BW.out.size
       have HSH:=Lib.hid hsh
       have HQQ:=Lib.hid hq
       have HZ:=Lib.hid (And.intro z0 hl0)
       clear hh ha hsh hq hq9 hbq hn0 z0 z1 z2 hl0
       try simp only[List.length_map] at q1 q2 HSH
       generalize q.head.length=n1 at *
       generalize q.atoms.length=n2 at *
       generalize chkQ q=ck at *
       by_cases hc0:ck=0
       rotate_left
       ·have hce:(ck != 0)=true:=by simpa using hc0
        have hq:=HQQ.out
        rw[if_nz hc0] at hq
        subst hq
        go_wp2_with fail
        refine HSH.out.mono ?_
        rintro e w2 ⟨rfl,hb2⟩
        have HB2:=Lib.hid (BW.out.trans (hb2.mono BW.out.size))
        clear hb2 q0 q1 q2
        go_wp2_with fail
        go_ret
        exact⟨rfl,HB2.out⟩
       have hce:(ck != 0)=false:=by simp [hc0]
       have hq:=HQQ.out
       rw[if_z hc0] at hq
       subst hc0
       have HQ3:=Lib.hid hq
       clear hq HQQ
       go_wp2_with fail
       refine HSH.out.mono ?_
       rintro e w2 ⟨rfl,hb2⟩
       have HB2:=Lib.hid (BW.out.trans (hb2.mono BW.out.size))
       clear hb2 q0 q1 q2 hl1
       go_wp2_with fail
       go_loopw [14] (fun i wr=>∃ s:Nat,s<=p/\i=.int .i64 s/\Hid ((qs.take s).any (fun x=>x.name == q.name)=false)/\Hid (Below w.heap.size w wr)) (fun i _=>p - (intOf i).toNat)
       case atStart=>exact⟨0,Nat.zero_le _,rfl,Lib.hid rfl,HB2⟩
       clear HB2
       case round =>
        obtain⟨s,hs,rfl,HF,HB⟩:=hrel
        obtain⟨wi,rfl⟩:∃ wi:World,wi=wr:=⟨_,rfl⟩
        by_cases hsp:s<p
        ·obtain⟨y,hy⟩:∃ y,qs[s]? = some y:=⟨qs[s]'(by rw[HK.out];omega),List.getElem?_eq_getElem (by rw[HK.out];omega)⟩
         obtain⟨b2,o2,c2,hv2,av2,hv3,_,_,hl2,y0,_,_,_,_⟩:=(HQ.out.keep HB.out).get hy
         rw[HK.out] at hv3
         simp only[Value.slice.injEq,Option.some.injEq,Addr.mk.injEq,and_true,true_and] at hv3
         obtain⟨⟨rfl,rfl⟩,rfl⟩:=hv3
         have x0:=(HB.out.cell (p:=⟨b1,o1+p * 3,none⟩) HZ.out.2).trans HZ.out.1
         have hds:decide ((s:Int)<0)=false:=by simp
         have hds2:decide ((qn:Int)<=(s:Int))=false:=by simp;omega
         have hds3:decide ((s:Int)<(p:Int))=true:=by simp;omega
         have HYY:=Lib.hid hy
         have hsq:s<qn:=by omega
         have HSF:=Lib.hid (show wi.cell? ⟨b1,o1+s * 3,none⟩=some (.string ⟨y.name.toArray⟩)/\wi.cell? ⟨b1,o1+p * 3,none⟩=some (.string ⟨q.name.toArray⟩)/\b1<wi.heap.size from ⟨y0,x0,hl2⟩)
         clear hy
         obtain⟨yn,hyn⟩:∃ yn,y.name=yn:=⟨_,rfl⟩
         obtain⟨qm,hqm⟩:∃ qm,q.name=qm:=⟨_,rfl⟩
         rw[hyn,hqm] at HSF
         rw[hyn] at y0
         rw[hqm] at x0
         have HYN:=Lib.hid (And.intro hyn hqm)
         clear hyn hqm
         by_cases hnm:yn=qm
         case' pos=>rw[hnm] at HSF y0
         case' neg =>
          have hne:¬ ((⟨yn.toArray⟩:ByteArray)=⟨qm.toArray⟩):=fun e=>hnm (bytes_eq.1 e)
          have hne2:(yn == qm)=false:=beq_eq_false_iff_ne.2 hnm
          have hne3:((⟨yn.toArray⟩:ByteArray).toList == (⟨qm.toArray⟩:ByteArray).toList)=false:=by rw[ByteArray.toList_eq,ByteArray.toList_eq];simpa using hnm
          have hne4:((⟨yn.toArray⟩:ByteArray).data.toList == (⟨qm.toArray⟩:ByteArray).data.toList)=false:=by simpa using hnm
         case pos =>
          go_upto_region 29 with fail
          clear y0 x0
          obtain⟨SS,hSS⟩:∃ SS:World->Prop,SS=fun W=>W.cell? ⟨b1,o1+s * 3,none⟩=some (.string ⟨qm.toArray⟩)/\W.cell? ⟨b1,o1+p * 3,none⟩=some (.string ⟨qm.toArray⟩)/\b1<W.heap.size:=⟨_,rfl⟩
          have HSC:=Lib.hid (fun W (q:SS W)=>(by rw[hSS] at q;exact q:W.cell? ⟨b1,o1+s * 3,none⟩=some (.string ⟨qm.toArray⟩)/\W.cell? ⟨b1,o1+p * 3,none⟩=some (.string ⟨qm.toArray⟩)/\b1<W.heap.size))
          have HSI:=Lib.hid (fun W (q:W.cell? ⟨b1,o1+s * 3,none⟩=some (.string ⟨qm.toArray⟩)/\W.cell? ⟨b1,o1+p * 3,none⟩=some (.string ⟨qm.toArray⟩)/\b1<W.heap.size)=>(by rw[hSS];exact q:SS W))
          clear hSS
          have HSS:SS wi.drew:=HSI.out _ (HSF.out)
          refine wp_region_held_drew (by kernel_rfl) HSS (fun _=>?_)
          refine Held.tk 0 99 HSS ?_
          refine Held.tk 1 100 HSS ?_
          refine Held.tk 2 101 HSS ?_
          refine Held.tk 3 102 HSS ?_
          refine Held.tk 4 103 HSS ?_
          refine Held.tk 5 104 HSS ?_
          refine Held.tk 6 105 HSS ?_
          refine Held.tk 7 106 HSS ?_
          refine Held.tk 8 107 HSS ?_
          refine Held.tk 9 108 HSS ?_
          refine Held.tk 10 109 HSS ?_
          refine wpAnyH_done (by kernel_rfl) ?_ _
          clear HSS HSC HSI
          have hq:=HQ3.out
          rw[take_any_hit _ HYY.out hsp (by rw[HYN.out.1,HYN.out.2];exact beq_iff_eq.2 hnm),if_pos rfl] at hq
          subst hq
          go_wp2_with fail
          go_ret
          exact⟨rfl,bdrew HB.out⟩
         case neg =>
          go_upto_region 29 with fail
          clear y0 x0
          obtain⟨SS,hSS⟩:∃ SS:World->Prop,SS=fun W=>W.cell? ⟨b1,o1+s * 3,none⟩=some (.string ⟨yn.toArray⟩)/\W.cell? ⟨b1,o1+p * 3,none⟩=some (.string ⟨qm.toArray⟩)/\b1<W.heap.size:=⟨_,rfl⟩
          have HSC:=Lib.hid (fun W (q:SS W)=>(by rw[hSS] at q;exact q:W.cell? ⟨b1,o1+s * 3,none⟩=some (.string ⟨yn.toArray⟩)/\W.cell? ⟨b1,o1+p * 3,none⟩=some (.string ⟨qm.toArray⟩)/\b1<W.heap.size))
          have HSI:=Lib.hid (fun W (q:W.cell? ⟨b1,o1+s * 3,none⟩=some (.string ⟨yn.toArray⟩)/\W.cell? ⟨b1,o1+p * 3,none⟩=some (.string ⟨qm.toArray⟩)/\b1<W.heap.size)=>(by rw[hSS];exact q:SS W))
          clear hSS
          have HSS:SS wi.drew:=HSI.out _ (HSF.out)
          refine wp_region_held_drew (by kernel_rfl) HSS (fun _=>?_)
          refine Held.tk 0 99 HSS ?_
          refine Held.tk 1 100 HSS ?_
          refine Held.tk 2 101 HSS ?_
          refine Held.tk 3 102 HSS ?_
          refine Held.tk 4 103 HSS ?_
          refine Held.tk 5 104 HSS ?_
          refine Held.tk 6 105 HSS ?_
          refine Held.tk 7 106 HSS ?_
          refine Held.tk 8 107 HSS ?_
          refine Held.tk 9 108 HSS ?_
          refine Held.tk 10 109 HSS ?_
          refine wpAnyH_done (by kernel_rfl) ?_ _
          clear HSS HSC HSI
          go_wp2_with fail
          go_roundw
          case rel=>exact⟨s+1,by omega,by go_num,Lib.hid (by rw[take_any_snoc _ HYY.out,HF.out,HYN.out.1,HYN.out.2,beq_eq_false_iff_ne.2 hnm];rfl),Lib.hid (bdrew HB.out)⟩
          case measure=>simp [intOf];omega
        ·obtain rfl:s=p:=by omega
         have hq:=HQ3.out
         rw[HF.out,if_neg (show ¬ (false=true) by decide)] at hq
         have HQ4:=Lib.hid hq
         have hds3:decide ((s:Int)<(s:Int))=false:=by simp
         clear hq
         go_wp2_with fail
         go_roundw
         case rel=>exact⟨s+1,by omega,by go_num,HQ4,HB⟩
         case measure=>simp [intOf];omega
      ·obtain rfl:p=qn:=by omega
       have hq:=HP.out
       rw[List.drop_of_length_le (by rw[HK.out];exact Nat.le_refl _)] at hq
       obtain rfl:RES=0:=hq
       have hdl0:decide ((p:Int)<(p:Int))=false:=by simp
       go_wp2_with fail
       go_ret
       exact⟨rfl,BW.out⟩
end Go.Proofs.YtgopfpjinohncaaGreatDoor
