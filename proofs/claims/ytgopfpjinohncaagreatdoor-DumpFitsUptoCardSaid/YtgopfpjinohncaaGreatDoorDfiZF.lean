/- dump.fits, walked. -/
import Derived.Test.YtgopfpjinohncaaGreatDoorDm0ZF
import Derived.Test.YtgopfpjinohncaaGreatDoorKxF
import Derived.Test.YtgopfpjinohncaaGreatDoorCiF
set_option maxHeartbeats 8000000
set_option maxRecDepth 100000
set_option linter.unusedVariables false
namespace Go.Proofs.YtgopfpjinohncaaGreatDoor
open Go.Proofs.Tryz
open Go.RowKit
theorem xp {row:List Vl} {cols:List bd} (h:row.length≠cols.length):de row cols=false:=by
 unfold de
 rw[decide_eq_false h]
 rfl
theorem xV {row:List Vl} {cols:List bd} (h:dj row=false):de row cols=false:=by
 unfold de
 rw[h]
 simp
theorem AZ {row:List Vl} {cols:List bd} {k:Nat} {u:Vl} {c:bd} (h1:row[k]? = some u) (h2:cols[k]? = some c) (h:u.k≠c.k):de row cols=false:=by
 unfold de
 have:(row.zip cols).all wR=false:=by
  rw[List.all_eq_false]
  exact⟨(u,c),FC (xe h1 h2),by simpa [wR] using h⟩
 rw[this]
 simp
theorem xC {row:List Vl} {cols:List bd} (h:row.length=cols.length) (hb:dj row=true) (ha:∀ (k:Nat) (u:Vl) (c:bd),row[k]? = some u->cols[k]? = some c->u.k=c.k):de row cols=true:=by
 unfold de
 rw[decide_eq_true h,hb,Bool.true_and,Bool.true_and,List.all_eq_true]
 intro p hp
 obtain⟨k,hk⟩:=List.getElem?_of_mem hp
 obtain⟨u,c⟩:=p
 rw[List.getElem?_zip_eq_some] at hk
 simpa [wR] using ha k u c hk.1 hk.2
theorem yS (w:World) (rv cv:Value) (row:List Vl) (cols:List bd) (hrow:aj w rv 3 (row.map Vl.cells)) (hcols:aO w cv cols) :
 Calls prog 84 #[rv,cv] w fun e w'=>e=.returned (.bool (de row cols))/\Below w.heap.size w w':=by
 have hnot:∀ (x:Bool) (w:World),(Op.unary .not (.bool x)).run prog w=.ok (.bool (!x)) w:=fun _ _=>rfl
 have hvl:=dO w rv row hrow
 obtain⟨ra,rc,rfl,hrn,hrm⟩:=hrow.form
 obtain⟨ua,uc,rfl,hun,hum⟩:=hcols.form
 unfold maxLen at hrm hum
 rw[List.length_map] at *
 have HROW:=Fx hrow
 have HC1:=Fx hcols
 obtain⟨RES,hRES⟩:∃ RES,RES=de row cols:=⟨_,rfl⟩
 rw[<-hRES]
 have HQ:=Fx hRES
 obtain⟨vb,hvb⟩:∃ vb,dj row=vb:=⟨_,rfl⟩
 rw[hvb] at hvl
 have HV:=Fx hvl
 have HVB:=Fx hvb
 clear hrow hcols hRES hvl hvb
 generalize hN:row.length=n at *
 generalize hM:cols.length=cn at *
 have HN:=Fx hN
 have HM:=Fx hM
 clear hN hM
 by_cases hnc:n=cn
 ·subst hnc
  have hnn:((n:Int) != (n:Int))=false:=by simp
  cases vb with
  | false =>
    have hno:de row cols=false:=xV HVB.out
    have hq:=HQ.out
    rw[hno] at hq
    subst hq
    clear hno
    go_enter func84,ntmps84
    go_wp2_with fail
    refine HV.out.mono ?_
    rintro e w1 ⟨rfl,hb1⟩
    have HB1:=Fx hb1
    clear hb1
    go_wp2_with fail
    go_ret
    exact⟨by first | rfl | simp,HB1.out⟩
  | true =>
    go_enter func84,ntmps84
    go_wp2_with fail
    refine HV.out.mono ?_
    rintro e w1 ⟨rfl,hb1⟩
    have HB1:=Fx hb1
    clear hb1
    go_wp2_with fail
    go_loopw [19] (fun i wr=>∃ j:Nat,j<=n/\i=.int .i64 j/\Hid (∀ (q:Nat) (u:Vl) (c:bd),q<j->row[q]? = some u->cols[q]? = some c->u.k=c.k)/\Hid (Below w.heap.size w wr)) (fun i _=>n - (intOf i).toNat)
    case atStart=>exact⟨0,Fz,rfl,Fx (fun q _ _ hq=>by omega),HB1⟩
    case round =>
     obtain⟨j,hj,rfl,HP,BW⟩:=hrel
     obtain⟨wo,rfl⟩:∃ wo:World,wo=wr:=⟨_,rfl⟩
     by_cases hlt:j<n
     ·obtain⟨uu,hu⟩:∃ uu,row[j]? = some uu:=⟨row[j]'(by rw[HN.out];exact hlt),FD (by rw[HN.out];exact hlt)⟩
      obtain⟨c,hc⟩:∃ c,cols[j]? = some c:=⟨cols[j]'(by rw[HM.out];exact hlt),FD (by rw[HM.out];exact hlt)⟩
      obtain⟨vb,vo,vcap,hv,_,_,hvl,hce⟩:=(HROW.out.keep BW.out).get (i:=j) (x:=uu.cells) (by simp [hu])
      simp only[List.length_map,HN.out,Value.slice.injEq,true_and] at hv
      obtain⟨rfl,rfl⟩:=hv
      have q0:=hce 0 _ rfl
      have q1:=hce 1 _ rfl
      have q2:=hce 2 _ rfl
      simp only[Nat.add_zero] at q0
      obtain⟨cb,co,ccap,hcv,_,_,hcl,k0,k1⟩:=(aO.keep HC1.out BW.out).get hc
      simp only[HM.out,Value.slice.injEq,true_and] at hcv
      obtain⟨rfl,rfl⟩:=hcv
      have HU:=Fx hu
      have HC:=Fx hc
      have hdk:decide ((j:Int)<0)=false:=by simp
      have hdn:decide ((n:Int)<=(j:Int))=false:=by simp;omega
      obtain⟨WB,hWB⟩:∃ WB,wo.alloc (.cells #[.int .i64 uu.k,.int .i64 uu.n,.string ⟨uu.t.toArray⟩] 111)=WB:=⟨_,rfl⟩
      have hbk:Below wo.heap.size wo WB:=by rw[<-hWB];exact ae Fy _
      have hbb:af WB wo.heap.size 111 #[.int .i64 uu.k,.int .i64 uu.n,.string ⟨uu.t.toArray⟩]:=by rw[<-hWB];exact af.new _ _ _
      have hbz:wo.heap.size<=WB.heap.size:=hbk.size
      have b0:=hbb.cell 0
      have b1:=hbb.cell 1
      have b2:=hbb.cell 2
      have bl:=hbb.lt
      simp only[FF] at b0 b1 b2
      have k1b:=(hbk.cell (p:=⟨cb,co+j * 2+1,none⟩) hcl).trans k1
      have clb:cb<WB.heap.size:=Nat.lt_of_lt_of_le hcl hbz
      have HBK:=Fx (BW.out.trans (hbk.mono BW.out.size))
      have HWB:=Fx hWB
      clear hce hu hc hWB hbk hbb
      by_cases hkk:uu.k=c.k
      ·have hd:(uu.k != c.k)=false:=by simp [hkk]
       have HP2:Hid (∀ (q:Nat) (u:Vl) (c:bd),q<j+1->row[q]? = some u->cols[q]? = some c->u.k=c.k):=Fx (fun q u' c' hq h1 h2=>by
        rcases Nat.lt_or_eq_of_le (Nat.le_of_lt_succ hq) with h | rfl
        ·exact HP.out q u' c' h h1 h2
        ·rw[HU.out] at h1
         rw[HC.out] at h2
         simp only[Option.some.injEq] at h1 h2
         subst h1 h2
         exact hkk)
       clear hkk
       go_upto_region 6 with fail
       rw[HWB.out]
       go_quiet (fail)
       go_wp2_with fail
       go_roundw
       case rel=>exact⟨j+1,by omega,by go_num,HP2,Fx (HBK.out.trans (Below.mono (dC Fy _) HBK.out.size))⟩
       case measure=>simp [intOf];omega
      ·have hd:(uu.k != c.k)=true:=by simpa using hkk
       have hno:de row cols=false:=AZ HU.out HC.out hkk
       have hq:=HQ.out
       rw[hno] at hq
       subst hq
       clear hno hkk
       go_upto_region 6 with fail
       rw[HWB.out]
       go_quiet (fail)
       go_wp2_with fail
       go_ret
       exact⟨by first | rfl | simp,HBK.out.trans (Below.mono (dC Fy _) HBK.out.size)⟩
     ·obtain rfl:j=n:=by omega
      have hyes:de row cols=true:=xC (by rw[HN.out,HM.out]) HVB.out (fun q u c h1 h2=>HP.out q u c (by rw[<-HN.out];exact (FE h1).1) h1 h2)
      have hq:=HQ.out
      rw[hyes] at hq
      subst hq
      clear hyes
      go_wp2_with fail
      go_ret
      exact⟨by first | rfl | simp,BW.out⟩
 ·have hnn:((n:Int) != (cn:Int))=true:=by
   simp only[bne_iff_ne,ne_eq]
   omega
  have hno:de row cols=false:=xp (by rw[HN.out,HM.out];exact hnc)
  have hq:=HQ.out
  rw[hno] at hq
  subst hq
  clear hno
  go_enter func84,ntmps84
  go_wp2_with fail
  go_ret
  exact⟨by first | rfl | simp,Below.refl _ _⟩
theorem nE {Q:Nat->Prop} (w:World) (b:Nat) (m:Int) (d:List aU) (h:bE Q w b m d) :
 Calls prog 108 #[.pointer (some ⟨b,0,none⟩)] w fun e w'=>∃ a cp,e=.returned (.slice a d.length cp)/\qx w.heap.size w' (.slice a d.length cp) d/\Below w.heap.size w w':=by
 obtain⟨ic,hic,hc0,hc1,hc2⟩:=info_parts Tryz.infoRl
 obtain⟨sv,hb,ho,hs⟩:=h
 have hat:=hs.at ho
 have hd8:=hs.1
 have hd5:=hs.2
 obtain⟨ad,cap,rfl,hnc,hcm⟩:=hat.form
 unfold maxLen at hcm
 have hx1:=hb.cell 1
 have hxl:=hb.lt
 simp only[FF] at hx1
 have HR:=Fx hat
 have HBB:=Fx hb
 have H5:=Fx hd5
 clear hb ho hs hat hd5
 generalize hN:d.length=n at *
 have HN:=Fx hN
 clear hN
 go_enter func108,ntmps108
 go_wp2_with (at_make;refine wpList_make_full _ rfl _ _ 22 rfl w.heap.size 57 ic (.agg #[.string ⟨#[]⟩,.slice none 0 0]) 2 underlying22 hic hc0 hc1 _ _ _ _ n rfl rfl rfl rfl ?b2 ?b3 ?b4 ?_)
 case b2=>first | omega | (rw[hc2];omega)
 case b3=>unfold maxLen;omega
 try (case b4=>omega)
 intro w5 hown5 hgrow5
 obtain⟨ko,hr0,hr1,hr2⟩:=fy 2 n _ hown5.1
 rw[<-hr2] at hown5
 have hb5:Below w.heap.size w w5:=Below.grown Fy hgrow5 FA (fun q hq=>by cases hq)
 have hy:=HBB.out.below hb5 HBB.out.lt
 have y1:=hy.cell 1
 have yl:=hy.lt
 simp only[FF] at y1
 have HO5:=Fx hown5
 have HB5:=Fx hb5
 have HRL:=Fx (And.intro hr0 hr1)
 clear hown5 hgrow5 hb5 hr0 hr1 hr2 hy hx1 hxl
 go_wp2_with fail
 clear y1 yl
 go_loopw [17] (fun i wr=>∃ (k:Nat) (rows:List (List Value)),k<=n/\i=.int .i64 k/\Hid (wr.ownsRow w.heap.size 57 2 (.slice (some ⟨w.heap.size,0,none⟩) n n) n rows.flatten)/\Hid (rows.length=n/\∀ x∈rows,x.length=2)/\Hid (aH (jL (fun q=>w.heap.size<q) wr) (rows.take k) (d.take k))/\Hid (Below w.heap.size w wr)) (fun i _=>n - (intOf i).toNat)
 case atStart=>exact⟨0,ko,Fz,rfl,HO5,HRL,Fx trivial,HB5⟩
 case round =>
  obtain⟨k,rows,hk,rfl,OW,RL,AL,BW⟩:=hrel
  obtain⟨wo,rfl⟩:∃ wo:World,wo=wr:=⟨_,rfl⟩
  by_cases hkn:k<n
  ·obtain⟨c,hc⟩:∃ c,d[k]? = some c:=⟨d[k]'(by rw[HN.out];exact hkn),FD (by rw[HN.out];exact hkn)⟩
   obtain⟨rb,off,cap',cv,hv,_,_,hbl,q0,q1,hrow,hrl⟩:=(HR.out.keep BW.out).get hc
   rw[HN.out] at hv
   simp only[Value.slice.injEq,true_and] at hv
   obtain⟨rfl,rfl⟩:=hv
   obtain⟨ra,rc,rfl,_,_⟩:=hrow.form
   have hdk:decide ((k:Int)<0)=false:=by simp
   have hdn:decide ((n:Int)<=(k:Int))=false:=by simp;omega
   have hbk:Below wo.heap.size wo (wo.alloc (.cells #[.string ⟨c.name.toArray⟩,.slice ra c.cols.length rc] 57)):=ae Fy _
   have hcr:=jP (wo.alloc (.cells #[.string ⟨c.name.toArray⟩,.slice ra c.cols.length rc] 57)) ⟨c.name.toArray⟩ (.slice ra c.cols.length rc) c.cols (hrow.keep hbk) hrl
   have HCR:=Fx hcr
   have HCC:=Fx hc
   have HBK:=Fx hbk
   have hbw:=BW.out.size
   have hgo:w.heap.size<wo.heap.size:=(World.ownsRow.lt OW.out w.heap.size rfl).2
   clear hc hrow hcr hbk
   generalize hCN:c.cols.length=rn at *
   have HCN:=Fx hCN
   clear hCN
   go_wp2_with fail
   refine HCR.out.mono ?_
   rintro e w6 ⟨u6,rfl,hown6,hb6⟩
   have hlow:w6.ownsRow 0 109 2 u6 c.cols.length (c.cols.flatMap bd.cells):=World.ownsRow.low hown6 (Fz)
   have hq6:∀ q,u6.ownBlock=some q->w.heap.size<q:=fun q hq=>by
    have:=(World.ownsRow.lt (show World.ownsRow _ _ _ _ _ _ _ from hown6) q hq).1
    simp at this
    omega
   obtain⟨ua,uc,rfl⟩:=aB (show World.ownsRow _ _ _ _ _ _ _ from hown6)
   have hb66:=dZ HBK.out hb6
   have o6:=(MT.ofBelow (B:=0) (Ts:=[]) hb66).ownsRow OW.out (by simp)
   have HO6:=Fx o6
   have HW6:=Fx hlow
   have HQ6:=Fx hq6
   have HB6:=Fx hb66
   clear o6 hown6 hb6 hlow hq6 hb66
   rw[HCN.out] at HW6 HQ6 ⊢
   go_wp2_with (refine dR rfl 57 _ _ rfl w.heap.size k 57 2 w.heap.size n n rows _ rfl rfl HO6.out RL.out.2 RL.out.1 hkn rfl (by kernel_rfl) (by simp [Value.oneCell']) ?_)
   intro w7 h7 m7 z7
   have hall:∀ W',aq (fun j=>j=w.heap.size) w6 W'->aH (jL (fun q=>w.heap.size<q) W') ((rows.set k [.string ⟨c.name.toArray⟩,.slice ua rn uc]).take (k+1)) (d.take (k+1)):=by
    intro W' m6
    rw[fl (by rw[RL.out.1];exact hkn),List.take_add_one,HCC.out]
    refine aH.snoc ⟨_,rfl,?_,fun q hq=>HQ6.out q hq⟩ (AL.out.mono fun q a hh=>(hh.mod (aq.ofBelow (F:=fun _=>False) HB6.out) (fun _ _ f=>f)).mod m6 (fun q hq=>by omega))
    show World.ownsRow _ _ _ _ _ _ _
    rw[HCN.out]
    exact m6.ownsRow HW6.out (fun q hq=>by have:=HQ6.out q hq;omega)
   have HS:=Fx h7
   have HAL:=Fx (hall _ m7)
   have HB7:=Fx (aq.own (BW.out.trans (HB6.out.mono hbw)) m7 FA)
   clear h7 m7 z7 hall
   go_wp2_with fail
   go_roundw
   case rel=>exact⟨k+1,_,by omega,by go_num,HS,Fx ⟨by rw[List.length_set];exact RL.out.1,mG RL.out.2 rfl⟩,HAL,HB7⟩
   case measure=>simp [intOf];omega
  ·obtain rfl:k=n:=by omega
   have hal:=AL.out
   rw[List.take_of_length_le (by rw[RL.out.1];exact FA),List.take_of_length_le (by rw[HN.out];exact FA)] at hal
   have HAL:=Fx hal
   clear hal
   go_wp2_with fail
   go_ret
   exact⟨_,_,rfl,⟨rows,by rw[HN.out];exact World.ownsRow.low OW.out (Fz),fun q hq=>by simp [Value.ownBlock] at hq;omega,HAL.out.mono fun b a hh=>hh.mono fun q _ hq=>Nat.le_of_lt hq⟩,BW.out⟩
