/- osierref26.Lines, walked (printed by mkld9.py). -/
import Derived.Test.YtgopfpjinohncaaGreatDoorDk8ZL
import Derived.Test.YtgopfpjinohncaaGreatDoorDt0ZL
import Derived.Test.YtgopfpjinohncaaGreatDoorKfL
import Derived.Test.YtgopfpjinohncaaGreatDoorQvL
import Derived.Test.YtgopfpjinohncaaGreatDoorRxL
import Derived.Test.YtgopfpjinohncaaGreatDoorShelfKZL
import Derived.Test.YtgopfpjinohncaaGreatDoorDl9nZL
namespace Go.Proofs.YtgopfpjinohncaaGreatDoor
open Go.RowKit
set_option linter.unusedVariables false
theorem ba_add {a b c:List UInt8} (h:a++b=c):(⟨a.toArray⟩:ByteArray)++⟨b.toArray⟩=⟨c.toArray⟩:=by
 subst h
 apply ByteArray.ext
 simp
theorem ba_size (a:List UInt8):(⟨a.toArray⟩:ByteArray).size=a.length:=by simp [ByteArray.size]
theorem vals_short {rels:List Rln} {data:List Tbl} (h:chkTb rels data=0):∀ t∈data,∀ r∈t.rows,∀ u∈r,u.t.length<=281474976710656:=fun t ht r hr u hu=>by
 have:=(rowB_all (chkTb_all rels data h t ht r hr)).2 u hu
 unfold validB at this
 rw[decide_eq_true_eq] at this
 rcases this with ⟨_,e⟩ | ⟨_,_,e⟩
 ·rw[e];simp
 ·omega
set_option maxHeartbeats 16000000 in
set_option maxRecDepth 100000 in
theorem refLines_any (w:World) (rv tv qv:Value) (rels:List Rln) (data:List Tbl) (qs:List Qry) (hR:RelsAt w rv rels) (hT:TblsAt w tv data) (hQ:QrysAt w qv qs) (bR:RlnB rels) (bT:∀ t∈data,RowsB t.rows) (bQ:∀ q∈qs,QryB q)
 (nR:rels.length<=1048576) (nD:data.length<=1048576) (nT:nRows data<=4194304) (nQ:qs.length<=1048576) :
 Calls Tryz.prog 13 #[rv,tv,qv] w fun e w'=>∃ v,e=.returned (.tuple #[v,.int .i64 (chkD rels data qs)])/\OwnS w.heap.size w' v (if chkD rels data qs=0 then linesP rels data qs else [])/\Below w.heap.size w w':=by
 obtain⟨i0,hi0,hz0,hz1,hz2⟩:=info_parts Tryz.infoStr
 have hck:=refDCheck_any w rv tv qv rels data qs hR hT hQ bR bQ
 obtain⟨ra,rc,rfl,hrn,hrm⟩:=hR.form
 obtain⟨ta,tc,rfl,htn,htm⟩:=hT.form
 obtain⟨qa,qc,rfl,hqn,hqm⟩:=hQ.form
 unfold maxLen at hrm htm hqm
 have HR:=Lib.hid hR
 have HT:=Lib.hid hT
 have HQ:=Lib.hid hQ
 have BT:=Lib.hid bT
 have BQ:=Lib.hid bQ
 have HCK:=Lib.hid hck
 have NT:=Lib.hid nT
 obtain⟨E0,hE0⟩:∃ E0,chkD rels data qs=E0:=⟨_,rfl⟩
 rw[hE0] at HCK ⊢
 have HE0:=Lib.hid hE0
 have HLP:=Lib.hid (linesP_eq rels data qs)
 obtain⟨ALL,hALL⟩:∃ ALL,linesP rels data qs=ALL:=⟨_,rfl⟩
 rw[hALL] at HLP ⊢
 clear hR hT hQ bR bT bQ hck hE0 hALL nT
 generalize hN:rels.length=n at *
 generalize hM:data.length=m at *
 generalize hK:qs.length=qn at *
 have HN:=Lib.hid hN
 have HM:=Lib.hid hM
 have HK:=Lib.hid hK
 clear hN hM hK
 go_enter Tryz.func13,Tryz.ntmps13
 go_wp2_with fail
 refine HCK.out.mono ?_
 rintro e w1 ⟨rfl,hb1⟩
 have HB1:=Lib.hid hb1
 clear hb1 HCK
 by_cases h0:E0=0
 rotate_left
 ·have he:(E0 != 0)=true:=by simpa using h0
  go_wp2_with fail
  go_ret2
  refine⟨_,rfl,?_,HB1.out⟩
  first
   | exact World.ownsRow_nil _ _ _ _
   | (rw[if_neg h0];exact World.ownsRow_nil _ _ _ _)
 subst h0
 have HC3:=Lib.hid (chkD_three HE0.out)
 go_wp2_with fail
 go_loopw [9,10] (fun ov iv wr=>∃ (k:Nat) (o:List (List UInt8)) (oa:Option Addr) (oc:Nat),k<=n/\iv=.int .i64 k/\ov=.slice oa o.length oc/\Hid (OwnS w.heap.size wr (.slice oa o.length oc) o)/\Hid (Below w.heap.size w wr)/\Hid (o=(rels.take k).map txtRel)/\o.length<=k) (fun _ i _=>n - (intOf i).toNat)
 case atStart=>exact⟨0,[],none,0,Nat.zero_le _,rfl,rfl,Lib.hid (World.ownsRow_nil _ _ _ _),HB1,Lib.hid rfl,Nat.le_refl _⟩
 case round =>
  obtain⟨k,o,oa,oc,hk,rfl,rfl,OW,HB,HE,hol⟩:=hrel
  obtain⟨wo,rfl⟩:∃ wo:World,wo=wr:=⟨_,rfl⟩
  by_cases hlt:k<n
  ·obtain⟨r,hr⟩:∃ r,rels[k]? = some r:=⟨rels[k]'(by rw[HN.out];exact hlt),List.getElem?_eq_getElem (by rw[HN.out];exact hlt)⟩
   have hst:(rels.take (k+1)).map txtRel=(rels.take k).map txtRel++[txtRel r]:=by rw[List.take_add_one,hr];simp
   obtain⟨b1,o1,c1,cv,hv1,_,_,hl1,q0,q1,hcols,hcn⟩:=(HR.out.keep HB.out).get hr
   rw[HN.out] at hv1
   simp only[Value.slice.injEq,true_and] at hv1
   obtain⟨rfl,rfl⟩:=hv1
   have hk0:=chkRl_all rels [] HC3.out.1 r (List.mem_of_getElem? hr)
   have hsh:=refShow_good wo ⟨r.name.toArray⟩ _ r.cols hcols hk0
   have hn0:(⟨r.name.toArray⟩:ByteArray).data.toList=r.name:=rfl
   rw[hn0] at hsh
   obtain⟨ca,cc,rfl,_,_⟩:=hcols.form
   have hdk:decide ((k:Int)<0)=false:=by simp
   have hdn:decide ((n:Int)<=(k:Int))=false:=by simp;omega
   have hdl:decide ((k:Int)<(n:Int))=true:=by simp;omega
   have hct:(⟨#[114,101,108,32]⟩:ByteArray)++⟨(showC r.name r.cols).toArray⟩=⟨(txtRel r).toArray⟩:=ba_add (txtRel_eq hk0).symm
   have hbd:¬ 9223372036854775807<4+(⟨(showC r.name r.cols).toArray⟩:ByteArray).size:=by
    rw[ba_size]
    have:=(show_len hk0).2
    omega
   obtain⟨tb,htb⟩:∃ tb:ByteArray,(⟨(txtRel r).toArray⟩:ByteArray)=tb:=⟨_,rfl⟩
   rw[htb] at hct
   have HTB:=Lib.hid htb
   have HSW:=Lib.hid hsh
   have HST:=Lib.hid hst
   clear hsh hcols hr hst hk0 hn0 htb
   generalize (⟨(showC r.name r.cols).toArray⟩:ByteArray)=sb at *
   generalize r.cols.length=rn at *
   go_wp2_with fail
   refine HSW.out.mono ?_
   rintro e w3 ⟨rfl,hb3⟩
   have OW3:=Lib.hid (OW.out.mt (MT.ofBelow (B:=0) (Ts:=[]) hb3) (by simp))
   have HB3:=Lib.hid (HB.out.trans (hb3.mono HB.out.size))
   clear hb3 q0 q1
   go_wp2_with (at_builtin;refine wpList_append_lies _ rfl (.tmp 31) (.tmp 38) 28 rfl w.heap.size 9 i0 (.string ⟨#[]⟩) 1 16 Tryz.underlying28 hi0 hz0 hz1 hz2 rfl (by decide) (.slice oa o.length oc) o.length _ rfl (OwnS.alloc OW3.out _) ⟨_,0,none⟩ 1 1 [.string tb] rfl rfl (World.news_of_block (Blk.new _ _ _)) (by simp [Value.oneCell']) (by decide) ?c3 ?c5 ?c4 _ rfl ?_)
   case c3=>unfold maxLen;omega
   case c5=>omega
   case c4=>have:=HB3.out.size;simp;omega
   intro g cap1 w4 hown2 hgrow2 hat2 hlt2
   have HB4:=Lib.hid ((balloc HB3.out _).grown hgrow2 (by have:=HB3.out.size;simp;omega) (fun q hq=>(World.ownsRow.lt OW3.out q hq).1))
   have OW4:Hid (OwnS w.heap.size w4 (.slice (some ⟨g,0,none⟩) (o++[txtRel r]).length cap1) (o++[txtRel r])):=Lib.hid (by
    rw[<-HTB.out] at hown2
    unfold OwnS
    simpa using hown2)
   clear hown2 hgrow2 hat2 hlt2
   go_wp2_with fail
   go_roundw
   case rel=>exact⟨k+1,o++[txtRel r],some ⟨g,0,none⟩,cap1,by omega,by go_num,by simp,OW4,HB4,Lib.hid (by rw[HST.out,<-HE.out]),by simp;omega⟩
   case measure=>simp [intOf];omega
  ·obtain rfl:k=n:=by omega
   have hE:=HE.out
   rw[List.take_of_length_le (by rw[HN.out];exact Nat.le_refl _)] at hE
   have HE1:=Lib.hid hE
   have hdl0:decide ((k:Int)<(k:Int))=false:=by simp
   clear hE HE
   go_wp2_with fail
   clear hdl0
   go_loopw [9,11] (fun ov iv wr=>∃ (j:Nat) (o:List (List UInt8)) (oa:Option Addr) (oc:Nat),j<=k/\iv=.int .i64 j/\ov=.slice oa o.length oc/\Hid (OwnS w.heap.size wr (.slice oa o.length oc) o)/\Hid (Below w.heap.size w wr)/\Hid (o=rels.map txtRel++(rels.take j).flatMap (fun r=>goB r.name [] 0 (arrP (rowsIn r.name data))))/\o.length<=k+4194304 * j) (fun _ i _=>k - (intOf i).toNat)
   case atStart=>exact⟨0,o,oa,oc,Nat.zero_le _,rfl,rfl,OW,HB,Lib.hid (by rw[HE1.out];simp),by omega⟩
   clear OW HB HE1 hol
   case round =>
    obtain⟨j,o,oa,oc,hj,rfl,rfl,OW,HB,HE,hol⟩:=hrel
    obtain⟨wo,rfl⟩:∃ wo:World,wo=wr:=⟨_,rfl⟩
    by_cases hlt:j<k
    ·obtain⟨r,hr⟩:∃ r,rels[j]? = some r:=⟨rels[j]'(by rw[HN.out];exact hlt),List.getElem?_eq_getElem (by rw[HN.out];exact hlt)⟩
     have hst:(rels.take (j+1)).flatMap (fun r=>goB r.name [] 0 (arrP (rowsIn r.name data)))=(rels.take j).flatMap (fun r=>goB r.name [] 0 (arrP (rowsIn r.name data)))++goB r.name [] 0 (arrP (rowsIn r.name data)):=by rw[List.take_add_one,hr];simp
     obtain⟨b1,o1,c1,cv,hv1,_,_,hl0,z0,_,_,_⟩:=HR.out.get hr
     rw[HN.out] at hv1
     simp only[Value.slice.injEq,true_and] at hv1
     obtain⟨rfl,rfl⟩:=hv1
     have hmem:=List.mem_of_getElem? hr
     have HWS:=Lib.hid (fun z (hz:z∈arrP (rowsIn r.name data))=>word_small HE0.out BT.out hmem hz)
     have HNM:=Lib.hid (name_len16 (chkC_ok (chkRl_all rels [] HC3.out.1 r hmem)).1)
     have HRO:=Lib.hid (rowsOf_any wo r.name _ data (HT.out.keep HB.out) NT.out (vals_short HC3.out.2.1))
     have hdk:decide ((j:Int)<0)=false:=by simp
     have hdn:decide ((k:Int)<=(j:Int))=false:=by simp;omega
     have hdl:decide ((j:Int)<(k:Int))=true:=by simp;omega
     have q0:=(HB.out.cell (p:=⟨b1,o1+j * 2,none⟩) hl0).trans z0
     have hl1:=Nat.lt_of_lt_of_le hl0 HB.out.size
     have HZ:=Lib.hid (And.intro z0 hl0)
     have HST:=Lib.hid hst
     have HAL:=Lib.hid (show (arrP (rowsIn r.name data)).length<=4194304 from Nat.le_trans (arrP_len _) (Nat.le_trans (rowsIn_len _ _) NT.out))
     have hxl:=HNM.out.2
     clear hr hst hmem z0 hl0
     obtain⟨R,hR⟩:∃ R,arrP (rowsIn r.name data)=R:=⟨_,rfl⟩
     rw[hR] at HWS HRO HST HAL
     clear hR
     obtain⟨x,hx⟩:∃ x,r.name=x:=⟨_,rfl⟩
     rw[hx] at HWS HRO HST HZ q0 hxl
     have HX:=Lib.hid hx
     clear hx HNM
     go_wp2_with fail
     refine HRO.out.mono ?_
     rintro e w3 ⟨v3,rfl,hr3,hb3⟩
     obtain⟨va,vc,rfl⟩:=hr3.sl1
     obtain⟨L,hL⟩:∃ L,R.length=L:=⟨_,rfl⟩
     have HL:=Lib.hid hL
     have hLb:L<=4194304:=by rw[<-hL];exact HAL.out
     rw[hL] at hr3 ⊢
     have HR3:=Lib.hid (hr3.low HB.out.size)
     have OW3:=Lib.hid (OW.out.mt (MT.ofBelow (B:=0) (Ts:=[]) hb3) (by simp))
     have HB3:=Lib.hid (HB.out.trans (hb3.mono HB.out.size))
     obtain⟨PRE,hPRE⟩:∃ PRE,o++goB x [] 0 R=PRE:=⟨_,rfl⟩
     have HPRE:=Lib.hid hPRE
     obtain⟨ob,hob⟩:∃ ob,o.length=ob:=⟨_,rfl⟩
     have HO0:=Lib.hid hob
     clear hr3 hb3 hL q0 hl1 hPRE hob HRO OW HB
     go_wp2_with fail
     go_loopw [9,13] (fun ov iv wr=>∃ (p:Nat) (o:List (List UInt8)) (oa:Option Addr) (oc:Nat),p<=L/\iv=.int .i64 p/\ov=.slice oa o.length oc/\Hid (OwnS w.heap.size wr (.slice oa o.length oc) o)/\Hid (RwsO w.heap.size wr (.slice va L vc) R)/\Hid (Below w.heap.size w wr)/\Hid (o++goB x [] 0 (R.drop p)=PRE)/\o.length<=ob+p) (fun _ i _=>L - (intOf i).toNat)
     case atStart=>exact⟨0,o,oa,oc,Nat.zero_le _,rfl,rfl,OW3,HR3,HB3,Lib.hid (by rw[List.drop_zero];exact HPRE.out),by have:=HO0.out;omega⟩
     clear OW3 HR3 HB3
     case round =>
      obtain⟨p,o,oa,oc,hp,rfl,rfl,OW,RW,HB,HE2,hol2⟩:=hrel
      obtain⟨wp,rfl⟩:∃ wp:World,wp=wr:=⟨_,rfl⟩
      by_cases hpl:p<L
      rotate_left
      ·obtain rfl:p=L:=by omega
       have he:=HE2.out
       rw[List.drop_of_length_le (by rw[HL.out];exact Nat.le_refl _),show goB x [] 0 []=[] from rfl,List.append_nil] at he
       have HEE:=Lib.hid he
       have hdl9:decide ((p:Int)<(p:Int))=false:=by simp
       clear he
       go_wp2_with fail
       go_roundw
       case rel=>exact⟨j+1,o,oa,oc,by omega,by go_num,rfl,OW,HB,Lib.hid (by rw[HST.out,HEE.out,<-HPRE.out,HE.out,List.append_assoc]),by have:=HO0.out;omega⟩
       case measure=>simp [intOf];omega
      obtain⟨z,hz⟩:∃ z,R[p]? = some z:=⟨R[p]'(by rw[HL.out];exact hpl),List.getElem?_eq_getElem (by rw[HL.out];exact hpl)⟩
      have hat:=RwsO.at_ RW.out (by rw[HL.out];omega)
      obtain⟨b2,o2,c2,zv,hv2,_,_,hl2,y0,hzr,_⟩:=hat.get hz
      rw[HL.out] at hv2
      simp only[Value.slice.injEq,true_and] at hv2
      obtain⟨rfl,rfl⟩:=hv2
      simp only[Nat.mul_one] at y0
      have HWZ:=Lib.hid (HWS.out z (List.mem_of_getElem? hz))
      have HSH:=Lib.hid (fun W (hW:Below wp.heap.size wp W)=>refRowShow_any W zv z (RowAt.keep hzr hW) HWZ.out.1)
      have HG:=Lib.hid (goB_begin (x:=x) hz)
      obtain⟨za,zc,rfl,_,_⟩:=hzr.form
      rw[List.length_map] at y0 HSH
      obtain⟨zn,hzn⟩:∃ zn,z.length=zn:=⟨_,rfl⟩
      rw[hzn] at y0 HSH
      have x0:=(HB.out.cell (p:=⟨b1,o1+j * 2,none⟩) HZ.out.2).trans HZ.out.1
      have hl1:=Nat.lt_of_lt_of_le HZ.out.2 HB.out.size
      have hdp:decide ((p:Int)<0)=false:=by simp
      have hdp2:decide ((L:Int)<=(p:Int))=false:=by simp;omega
      have hdp3:decide ((p:Int)<(L:Int))=true:=by simp;omega
      have hdj:decide ((j:Int)<0)=false:=by simp
      have hdj2:decide ((k:Int)<=(j:Int))=false:=by simp;omega
      have hc1:(⟨#[98,97,116,99,104,32,43]⟩:ByteArray)++⟨x.toArray⟩=⟨([98,97,116,99,104,32,43]++x).toArray⟩:=ba_add rfl
      have hc2:(⟨([98,97,116,99,104,32,43]++x).toArray⟩:ByteArray)++⟨(showRow z).toArray⟩=⟨([98,97,116,99,104,32]++wordP x z).toArray⟩:=ba_add (by simp [wordP])
      have hlw:=HWZ.out.2
      have hls:(showRow z).length<=1048576:=by unfold wordP at hlw;simp at hlw;omega
      have hbd1:¬ 9223372036854775807<7+(⟨x.toArray⟩:ByteArray).size:=by rw[ba_size];omega
      have hbd2:¬ 9223372036854775807<(⟨([98,97,116,99,104,32,43]++x).toArray⟩:ByteArray).size+(⟨(showRow z).toArray⟩:ByteArray).size:=by rw[ba_size,ba_size];simp;omega
      have HS0:=Lib.hid (show ([98,97,116,99,104,32]++wordP x z).length<=2097152 by simp;omega)
      have HSF:=Lib.hid (show wp.cell? ⟨b1,o1+j * 2,none⟩=some (.string ⟨x.toArray⟩)/\wp.cell? ⟨b2,o2+p,none⟩=some (.slice za zn zc)/\b1<wp.heap.size/\b2<wp.heap.size from ⟨x0,y0,hl1,hl2⟩)
      obtain⟨S0,hS0⟩:∃ S0,[98,97,116,99,104,32]++wordP x z=S0:=⟨_,rfl⟩
      rw[hS0] at hc2 HG HS0
      have HZN:=Lib.hid hzn
      clear hz hat hzr hzn hS0 hlw hls
      generalize hXB:(⟨x.toArray⟩:ByteArray)=xb at *
      have HXB:=Lib.hid hXB
      generalize (⟨([98,97,116,99,104,32,43]++x).toArray⟩:ByteArray)=pb at *
      generalize (⟨(showRow z).toArray⟩:ByteArray)=sb at *
      generalize hTBs:(⟨S0.toArray⟩:ByteArray)=tb0 at *
      have HT0:=Lib.hid hTBs
      clear hXB hTBs
      go_upto_region 15 with fail
      clear x0 y0 hl1 hl2
      obtain⟨SS,hSS⟩:∃ SS:World->Prop,SS=fun W=>W.cell? ⟨b1,o1+j * 2,none⟩=some (.string xb)/\W.cell? ⟨b2,o2+p,none⟩=some (.slice za zn zc)/\b1<W.heap.size/\b2<W.heap.size:=⟨_,rfl⟩
      have HSC:=Lib.hid (fun W (q:SS W)=>(by rw[hSS] at q;exact q:W.cell? ⟨b1,o1+j * 2,none⟩=some (.string xb)/\W.cell? ⟨b2,o2+p,none⟩=some (.slice za zn zc)/\b1<W.heap.size/\b2<W.heap.size))
      have HSI:=Lib.hid (fun W (q:W.cell? ⟨b1,o1+j * 2,none⟩=some (.string xb)/\W.cell? ⟨b2,o2+p,none⟩=some (.slice za zn zc)/\b1<W.heap.size/\b2<W.heap.size)=>(by rw[hSS];exact q:SS W))
      clear hSS
      have HSS:SS wp.drew:=HSI.out _ (HSF.out)
      refine wp_region_held_drew (by kernel_rfl) HSS (fun _=>?_)
      refine Held.tk 0 57 HSS ?_
      refine Held.tk 1 58 HSS ?_
      refine Held.tk 2 59 HSS ?_
      refine Held.tk 3 60 HSS ?_
      refine Held.tk 4 61 HSS ?_
      refine Held.tk 5 62 HSS ?_
      refine Held.tk 6 63 HSS ?_
      refine Held.on 7 (fun K hK=>?_)
      go_simp
      refine hK.out _ _ HSS ?_
      clear hK K
      try simp only[List.setIfInBounds_toArray,List.set_cons_succ,List.set_cons_zero]
      refine Held.on 8 (fun K hK=>?_)
      go_simp
      refine hK.out _ _ HSS ?_
      clear hK K
      try simp only[List.setIfInBounds_toArray,List.set_cons_succ,List.set_cons_zero]
      refine Held.tk 9 66 HSS ?_
      refine Held.on 10 (fun K hK=>?_)
      go_simp
      refine (HSH.out _ (bdrew (Below.refl _ _))).mono ?_
      rintro e w6 ⟨rfl,hb6⟩
      have hb7:Below wp.heap.size wp w6:=bt2 (bdrew (Below.refl _ _)) hb6
      have HB7:=Lib.hid hb7
      clear HSS
      have HSS:=HSI.out w6 ⟨(hb7.cell (p:=⟨b1,o1+j * 2,none⟩) HSF.out.2.2.1).trans HSF.out.1,(hb7.cell (p:=⟨b2,o2+p,none⟩) HSF.out.2.2.2).trans HSF.out.2.1,Nat.lt_of_lt_of_le HSF.out.2.2.1 hb7.size,Nat.lt_of_lt_of_le HSF.out.2.2.2 hb7.size⟩
      refine hK.out _ _ HSS ?_
      clear hK K hb6 hb7 HSH
      try simp only[List.setIfInBounds_toArray,List.set_cons_succ,List.set_cons_zero]
      refine Held.tk 11 68 HSS ?_
      refine Held.tk 12 14 HSS ?_
      refine Held.tk 13 15 HSS ?_
      refine wpAnyH_done (by kernel_rfl) ?_ _
      clear HSS HSC HSI
      rename_i KK hKK hHeld
      simp only[Exit.then]
      refine hKK _ _ ?_
      clear hKK KK hHeld
      refine wp_seq_k (fun KK hKK=>?_)
      go_cut [14,15] from 69 to 100 (fun sv nv wx=>∃ (s:List UInt8) (c:Nat),sv=.string ⟨s.toArray⟩/\nv=.int .i64 c/\1<=c/\p+c<=L/\Hid (goB x [] 0 (R.drop p)=s::goB x [] 0 (R.drop (p+c)))/\Hid (Below wp.heap.size wp wx))
      case first =>
       go_wp2_with fail
       go_loopw [14,15] (fun sv nv wx=>∃ (s:List UInt8) (c:Nat),sv=.string ⟨s.toArray⟩/\nv=.int .i64 c/\1<=c/\c<=256/\p+c<=L/\Hid (goB x [] 0 (R.drop p)=goB x s c (R.drop (p+c)))/\Hid (s.length<=2097152)/\Hid (Below wp.heap.size wp wx)) (fun _ nv _=>256 - (intOf nv).toNat)
       case atStart=>exact⟨S0,1,by rw[HT0.out],rfl,Nat.le_refl _,by omega,by omega,HG,HS0,HB7⟩
       clear HG HS0 HB7
       case round =>
        obtain⟨s,c,rfl,rfl,hc1,hc2,hpc,HG,HSL,HB7⟩:=hrel
        obtain⟨wi,rfl⟩:∃ wi:World,wi=wr:=⟨_,rfl⟩
        have hadd:IntKind.i64.wrap ((p:Int)+(c:Int))=(p:Int)+(c:Int):=by rw[IntKind.wrap_i64];omega
        by_cases hgo:p+c<L/\c<256
        rotate_left
        ·have hst:=goB_stop (x:=x) (rows:=R) (k:=p+c) (n:=c) (s:=s) hc1 (fun y hy=>by
          have:=(List.getElem?_eq_some_iff.1 hy).1
          rw[HL.out] at this
          exact .inl (by omega))
         have HG2:=Lib.hid (HG.out.trans hst)
         clear hst
         by_cases h1:p+c<L
         ·have d1:decide ((p:Int)+(c:Int)<(L:Int))=true:=decide_eq_true (by omega)
          have d2:decide ((c:Int)<256)=false:=decide_eq_false (by omega)
          go_wp2_with fail
          go_meet
          exact⟨s,c,rfl,rfl,hc1,hpc,HG2,HB7⟩
         ·have d1:decide ((p:Int)+(c:Int)<(L:Int))=false:=decide_eq_false (by omega)
          go_wp2_with fail
          go_meet
          exact⟨s,c,rfl,rfl,hc1,hpc,HG2,HB7⟩
        obtain⟨hg1,hg2⟩:=hgo
        have d1:decide ((p:Int)+(c:Int)<(L:Int))=true:=decide_eq_true (by omega)
        have d2:decide ((c:Int)<256)=true:=decide_eq_true (by omega)
        have hbw:=HB.out.trans (HB7.out.mono HB.out.size)
        obtain⟨y,hy⟩:∃ y,R[p+c]? = some y:=⟨R[p+c]'(by rw[HL.out];exact hg1),List.getElem?_eq_getElem (by rw[HL.out];exact hg1)⟩
        have hat:=(RwsO.mt RW.out (MT.ofBelow (B:=0) (Ts:=[]) HB7.out) (by simp) (by simp)).at_ (by rw[HL.out];omega)
        obtain⟨b3,o3,c3,yv,hv3,_,_,hl3,y0,hyr,_⟩:=hat.get hy
        rw[HL.out] at hv3
        simp only[Value.slice.injEq,Option.some.injEq,Addr.mk.injEq,and_true,true_and] at hv3
        obtain⟨⟨rfl,rfl⟩,rfl⟩:=hv3
        simp only[Nat.mul_one] at y0
        have HWY:=Lib.hid (HWS.out y (List.mem_of_getElem? hy))
        have HSH:=Lib.hid (fun W (hW:Below wi.heap.size wi W)=>refRowShow_any W yv y (RowAt.keep hyr hW) HWY.out.1)
        obtain⟨ya,yc,rfl,_,_⟩:=hyr.form
        rw[List.length_map] at y0 HSH
        obtain⟨yn,hyn⟩:∃ yn,y.length=yn:=⟨_,rfl⟩
        rw[hyn] at y0 HSH
        have x0:=(hbw.cell (p:=⟨b1,o1+j * 2,none⟩) HZ.out.2).trans HZ.out.1
        have hl1:=Nat.lt_of_lt_of_le HZ.out.2 hbw.size
        obtain⟨t,ht⟩:∃ t,p+c=t:=⟨_,rfl⟩
        have hti:(p:Int)+(c:Int)=(t:Int):=by omega
        rw[hti] at hadd d1
        rw[ht] at hg1 hpc hy y0
        have hdt:decide ((t:Int)<0)=false:=by simp
        have hdt2:decide ((L:Int)<=(t:Int))=false:=by simp;omega
        have hls:=HSL.out
        have hlw:=HWY.out.2
        have hlsr:(showRow y).length<=1048576:=by unfold wordP at hlw;simp at hlw;omega
        have hc5:(⟨s.toArray⟩:ByteArray)++⟨#[44,32,43]⟩=⟨(s++[44,32,43]).toArray⟩:=ba_add rfl
        have hc6:(⟨(s++[44,32,43]).toArray⟩:ByteArray)++xb=⟨(s++[44,32,43]++x).toArray⟩:=by rw[<-HXB.out];exact ba_add rfl
        have hc7:(⟨(s++[44,32,43]++x).toArray⟩:ByteArray)++⟨(showRow y).toArray⟩=⟨(s++[44,32]++wordP x y).toArray⟩:=ba_add (by simp [wordP])
        have hbd5:¬ 9223372036854775807<(⟨s.toArray⟩:ByteArray).size+3:=by rw[ba_size];omega
        have hbd6:¬ 9223372036854775807<(⟨(s++[44,32,43]).toArray⟩:ByteArray).size+xb.size:=by rw[<-HXB.out,ba_size,ba_size];simp;omega
        have hbd7:¬ 9223372036854775807<(⟨(s++[44,32,43]++x).toArray⟩:ByteArray).size+(⟨(showRow y).toArray⟩:ByteArray).size:=by rw[ba_size,ba_size];simp;omega
        have hML:(s++[44,32]++wordP x y).length=s.length+2+(wordP x y).length:=by simp;omega
        have HYY:=Lib.hid hy
        have HTT:=Lib.hid ht
        have HSF:=Lib.hid (show wi.cell? ⟨b1,o1+j * 2,none⟩=some (.string xb)/\wi.cell? ⟨b2,o2+t,none⟩=some (.slice ya yn yc)/\b1<wi.heap.size/\b2<wi.heap.size from ⟨x0,y0,hl1,hl3⟩)
        obtain⟨ML,hMl⟩:∃ ML,s++[44,32]++wordP x y=ML:=⟨_,rfl⟩
        rw[hMl] at hc7 hML
        have HMl:=Lib.hid hMl
        have HML:=Lib.hid hML
        have hMs:(⟨ML.toArray⟩:ByteArray).size=ML.length:=ba_size ML
        have hMb:ML.length<=4194304:=by rw[hML];omega
        clear hy hat hyr hyn ht hlw hlsr hMl hML hls
        generalize (⟨(s++[44,32,43]++x).toArray⟩:ByteArray)=pb2 at *
        generalize (⟨(s++[44,32,43]).toArray⟩:ByteArray)=pb1 at *
        generalize (⟨(showRow y).toArray⟩:ByteArray)=sb2 at *
        generalize hSB:(⟨s.toArray⟩:ByteArray)=s0 at *
        have HSB:=Lib.hid hSB
        obtain⟨ml,hml⟩:∃ ml,ML.length=ml:=⟨_,rfl⟩
        rw[hml] at hMs hMb
        have HMN:=Lib.hid hml
        generalize hMB:(⟨ML.toArray⟩:ByteArray)=mb at *
        have HMB:=Lib.hid hMB
        clear hSB hMB hml hbw
        go_upto_region 17 with fail
        clear x0 y0 hl1 hl3
        obtain⟨SS,hSS⟩:∃ SS:World->Prop,SS=fun W=>W.cell? ⟨b1,o1+j * 2,none⟩=some (.string xb)/\W.cell? ⟨b2,o2+t,none⟩=some (.slice ya yn yc)/\b1<W.heap.size/\b2<W.heap.size:=⟨_,rfl⟩
        have HSC:=Lib.hid (fun W (q:SS W)=>(by rw[hSS] at q;exact q:W.cell? ⟨b1,o1+j * 2,none⟩=some (.string xb)/\W.cell? ⟨b2,o2+t,none⟩=some (.slice ya yn yc)/\b1<W.heap.size/\b2<W.heap.size))
        have HSI:=Lib.hid (fun W (q:W.cell? ⟨b1,o1+j * 2,none⟩=some (.string xb)/\W.cell? ⟨b2,o2+t,none⟩=some (.slice ya yn yc)/\b1<W.heap.size/\b2<W.heap.size)=>(by rw[hSS];exact q:SS W))
        clear hSS
        have HSS:SS wi.drew:=HSI.out _ (HSF.out)
        refine wp_region_held_drew (by kernel_rfl) HSS (fun _=>?_)
        refine Held.tk 0 79 HSS ?_
        refine Held.tk 1 80 HSS ?_
        refine Held.tk 2 81 HSS ?_
        refine Held.tk 3 82 HSS ?_
        refine Held.tk 4 83 HSS ?_
        refine Held.tk 5 84 HSS ?_
        refine Held.tk 6 85 HSS ?_
        refine Held.tk 7 86 HSS ?_
        refine Held.tk 8 87 HSS ?_
        refine Held.tk 9 88 HSS ?_
        refine Held.on 10 (fun K hK=>?_)
        go_simp
        refine hK.out _ _ HSS ?_
        clear hK K
        try simp only[List.setIfInBounds_toArray,List.set_cons_succ,List.set_cons_zero]
        refine Held.on 11 (fun K hK=>?_)
        go_simp
        refine hK.out _ _ HSS ?_
        clear hK K
        try simp only[List.setIfInBounds_toArray,List.set_cons_succ,List.set_cons_zero]
        refine Held.on 12 (fun K hK=>?_)
        go_simp
        refine hK.out _ _ HSS ?_
        clear hK K
        try simp only[List.setIfInBounds_toArray,List.set_cons_succ,List.set_cons_zero]
        refine Held.tk 13 92 HSS ?_
        refine Held.on 14 (fun K hK=>?_)
        go_simp
        refine (HSH.out _ (bdrew (Below.refl _ _))).mono ?_
        rintro e w6 ⟨rfl,hb6⟩
        have hb8:Below wi.heap.size wi w6:=bt2 (bdrew (Below.refl _ _)) hb6
        have HB8:=Lib.hid (HB7.out.trans (hb8.mono HB7.out.size))
        clear HSS
        have HSS:=HSI.out w6 ⟨(hb8.cell (p:=⟨b1,o1+j * 2,none⟩) HSF.out.2.2.1).trans HSF.out.1,(hb8.cell (p:=⟨b2,o2+t,none⟩) HSF.out.2.2.2).trans HSF.out.2.1,Nat.lt_of_lt_of_le HSF.out.2.2.1 hb8.size,Nat.lt_of_lt_of_le HSF.out.2.2.2 hb8.size⟩
        refine hK.out _ _ HSS ?_
        clear hK K hb6 hb8 HSH
        try simp only[List.setIfInBounds_toArray,List.set_cons_succ,List.set_cons_zero]
        refine Held.tk 15 94 HSS ?_
        refine Held.tk 16 16 HSS ?_
        refine wpAnyH_done (by kernel_rfl) ?_ _
        clear HSS HSC HSI
        by_cases hlong:16384<ml
        ·have d5:decide ((16384:Int)<(ml:Int))=true:=decide_eq_true (by omega)
         have hst:=goB_stop (x:=x) (rows:=R) (k:=t) (n:=c) (s:=s) hc1 (fun y' hy'=>by
          rw[HYY.out] at hy'
          simp only[Option.some.injEq] at hy'
          subst hy'
          rw[<-HML.out,HMN.out]
          exact .inr hlong)
         have HG2:Hid (goB x [] 0 (R.drop p)=s::goB x [] 0 (R.drop t)):=Lib.hid (by rw[HG.out,HTT.out];exact hst)
         clear hst
         go_wp2_with fail
         go_meet
         exact⟨s,c,by rw[HSB.out],rfl,hc1,by rw[HTT.out];omega,Lib.hid (by rw[HTT.out];exact HG2.out),HB8⟩
        ·have d5:decide ((16384:Int)<(ml:Int))=false:=decide_eq_false (by omega)
         have hmo:=goB_more (x:=x) (rows:=R) (k:=t) (n:=c) (s:=s) HYY.out hc1 hg2 (by rw[<-HML.out,HMN.out];omega)
         rw[HMl.out] at hmo
         have HG2:Hid (goB x [] 0 (R.drop p)=goB x ML (c+1) (R.drop (t+1))):=Lib.hid (by rw[HG.out,HTT.out];exact hmo)
         clear hmo
         go_wp2_with fail
         go_roundw
         case rel=>exact⟨ML,c+1,by rw[HMB.out],by go_num,by omega,by omega,by have:=HTT.out;omega,Lib.hid (by rw[<-Nat.add_assoc,HTT.out];exact HG2.out),Lib.hid (by rw[HMN.out];omega),HB8⟩
         case measure=>simp [intOf];omega
      case rest =>
       obtain⟨s,c,rfl,rfl,hc1,hpc,HG,HB9⟩:=hcut
       refine hKK _ _ ?_
       clear hKK KK
       have HTB:=Lib.hid (show (⟨s.toArray⟩:ByteArray)=⟨s.toArray⟩ from rfl)
       have OW9:=Lib.hid (OW.out.mt (MT.ofBelow (B:=0) (Ts:=[]) HB9.out) (by simp))
       have RW9:=Lib.hid (RW.out.mt (MT.ofBelow (B:=0) (Ts:=[]) HB9.out) (by simp) (by simp))
       have HBA:=Lib.hid (HB.out.trans (HB9.out.mono HB.out.size))
       have hadd:IntKind.i64.wrap ((p:Int)+(c:Int))=(p:Int)+(c:Int):=by rw[IntKind.wrap_i64];omega
       have hob2:o.length+1<=5497558138880:=by have:=HO0.out;omega
       clear HSF
       go_wp2_with (at_builtin;refine wpList_append_lies _ rfl (.tmp 101) (.tmp 103) 28 rfl w.heap.size 9 i0 (.string ⟨#[]⟩) 1 16 Tryz.underlying28 hi0 hz0 hz1 hz2 rfl (by decide) (.slice oa o.length oc) o.length _ rfl (OwnS.alloc OW9.out _) ⟨_,0,none⟩ 1 1 [.string ⟨s.toArray⟩] rfl rfl (World.news_of_block (Blk.new _ _ _)) (by simp [Value.oneCell']) (by decide) ?c3 ?c5 ?c4 _ rfl ?_)
       case c3=>unfold maxLen;omega
       case c5=>omega
       case c4=>have:=HBA.out.size;simp;omega
       intro g cap1 w4 hown2 hgrow2 hat2 hlt2
       have HB4:=Lib.hid ((balloc HBA.out _).grown hgrow2 (by have:=HBA.out.size;simp;omega) (fun q hq=>(World.ownsRow.lt OW9.out q hq).1))
       have OW4:Hid (OwnS w.heap.size w4 (.slice (some ⟨g,0,none⟩) (o++[s]).length cap1) (o++[s])):=Lib.hid (by
        unfold OwnS
        simpa using hown2)
       have m4:MT 0 [9] _ w4:=((MT.refl _).alloc _).grown hgrow2 (OwnS.alloc OW9.out _) (by simp) (Nat.zero_le _)
       have RW4:=Lib.hid (RW9.out.mt m4 (by decide) (by decide))
       clear hown2 hgrow2 hat2 hlt2 m4
       go_wp2_with fail
       go_roundw
       case rel=>exact⟨p+c,o++[s],some ⟨g,0,none⟩,cap1,by omega,by go_num,by simp,OW4,RW4,HB4,Lib.hid (by rw[<-HE2.out,HG.out,List.append_assoc];rfl),by simp;omega⟩
       case measure=>simp [intOf];omega
    ·obtain rfl:j=k:=by omega
     have hE:=HE.out
     rw[List.take_of_length_le (by rw[HN.out];exact Nat.le_refl _)] at hE
     have HE2:=Lib.hid hE
     obtain⟨o2,ho2⟩:∃ o2,o=o2:=⟨_,rfl⟩
     have hol2:o2.length<=4398047559680:=by rw[<-ho2];omega
     rw[ho2] at HE2
     have HO2:=Lib.hid ho2
     have hdl0:decide ((j:Int)<(j:Int))=false:=by simp
     clear hE HE
     go_wp2_with fail
     clear hdl0
     go_loopw [9,17] (fun ov iv wr=>∃ (p:Nat) (o:List (List UInt8)) (oa:Option Addr) (oc:Nat),p<=qn/\iv=.int .i64 p/\ov=.slice oa o.length oc/\Hid (OwnS w.heap.size wr (.slice oa o.length oc) o)/\Hid (Below w.heap.size w wr)/\Hid (o=o2++(qs.take p).map txtView)/\o.length<=o2.length+p) (fun _ i _=>qn - (intOf i).toNat)
     case atStart=>exact⟨0,o,oa,oc,Nat.zero_le _,rfl,rfl,OW,HB,Lib.hid (by rw[HO2.out];simp),by rw[HO2.out];exact Nat.le_refl _⟩
     clear OW HB HO2 ho2 hol
     case round =>
      obtain⟨p,o,oa,oc,hp,rfl,rfl,OW,HB,HE,hol⟩:=hrel
      obtain⟨wo,rfl⟩:∃ wo:World,wo=wr:=⟨_,rfl⟩
      by_cases hlt:p<qn
      ·obtain⟨r,hr⟩:∃ r,qs[p]? = some r:=⟨qs[p]'(by rw[HK.out];exact hlt),List.getElem?_eq_getElem (by rw[HK.out];exact hlt)⟩
       have hst:(qs.take (p+1)).map txtView=(qs.take p).map txtView++[txtView r]:=by rw[List.take_add_one,hr];simp
       obtain⟨b1,o1,c1,hv,av,hv1,_,_,hl1,q0,q1,q2,hh,ha⟩:=(HQ.out.keep HB.out).get hr
       rw[HK.out] at hv1
       simp only[Value.slice.injEq,true_and] at hv1
       obtain⟨rfl,rfl⟩:=hv1
       have hbr:=BQ.out r (List.mem_of_getElem? hr)
       have hk0:=chkQl_all qs [] HC3.out.2.2 r (List.mem_of_getElem? hr)
       have hrng:RangeQ r:=fun a ha t ht=>((hbr.each a ha).2 t ht).1
       have hsh:=refQShow_good wo ⟨r.name.toArray⟩ hv av r.head r.atoms hh ha (chkQ_right hk0) hrng
       have hn0:qT ⟨(⟨r.name.toArray⟩:ByteArray).data.toList,r.head,r.atoms⟩=qT r:=rfl
       rw[hn0] at hsh
       have hqT:showQ r=qT r:=by unfold showQ;rw[if_pos hk0]
       obtain⟨ha1,hc1,rfl,_,_⟩:=hh.form
       obtain⟨aa1,ac1,rfl,_,_⟩:=ha.form
       have hdk:decide ((p:Int)<0)=false:=by simp
       have hdn:decide ((qn:Int)<=(p:Int))=false:=by simp;omega
       have hdl:decide ((p:Int)<(qn:Int))=true:=by simp;omega
       have hct:(⟨#[118,105,101,119,32]⟩:ByteArray)++⟨(qT r).toArray⟩=⟨(txtView r).toArray⟩:=ba_add (by rw[txtView_eq hk0,hqT])
       have hbd:¬ 9223372036854775807<5+(⟨(qT r).toArray⟩:ByteArray).size:=by
        rw[ba_size]
        have:=(qT_len (chkQ_right hk0) hrng).2.1
        omega
       obtain⟨tb,htb⟩:∃ tb:ByteArray,(⟨(txtView r).toArray⟩:ByteArray)=tb:=⟨_,rfl⟩
       rw[htb] at hct
       have HTB:=Lib.hid htb
       have HSW:=Lib.hid hsh
       have HST:=Lib.hid hst
       clear hsh hh ha hr hst hbr hk0 hrng hn0 hqT htb
       try simp only[List.length_map] at q1 q2 HSW
       generalize (⟨(qT r).toArray⟩:ByteArray)=sb at *
       generalize r.head.length=n1 at *
       generalize r.atoms.length=n2 at *
       go_wp2_with fail
       refine HSW.out.mono ?_
       rintro e w3 ⟨rfl,hb3⟩
       have OW3:=Lib.hid (OW.out.mt (MT.ofBelow (B:=0) (Ts:=[]) hb3) (by simp))
       have HB3:=Lib.hid (HB.out.trans (hb3.mono HB.out.size))
       clear hb3 q0 q1 q2
       go_wp2_with (at_builtin;refine wpList_append_lies _ rfl (.tmp 114) (.tmp 121) 28 rfl w.heap.size 9 i0 (.string ⟨#[]⟩) 1 16 Tryz.underlying28 hi0 hz0 hz1 hz2 rfl (by decide) (.slice oa o.length oc) o.length _ rfl (OwnS.alloc OW3.out _) ⟨_,0,none⟩ 1 1 [.string tb] rfl rfl (World.news_of_block (Blk.new _ _ _)) (by simp [Value.oneCell']) (by decide) ?c3 ?c5 ?c4 _ rfl ?_)
       case c3=>unfold maxLen;omega
       case c5=>omega
       case c4=>have:=HB3.out.size;simp;omega
       intro g cap1 w4 hown2 hgrow2 hat2 hlt2
       have HB4:=Lib.hid ((balloc HB3.out _).grown hgrow2 (by have:=HB3.out.size;simp;omega) (fun q hq=>(World.ownsRow.lt OW3.out q hq).1))
       have OW4:Hid (OwnS w.heap.size w4 (.slice (some ⟨g,0,none⟩) (o++[txtView r]).length cap1) (o++[txtView r])):=Lib.hid (by
        rw[<-HTB.out] at hown2
        unfold OwnS
        simpa using hown2)
       clear hown2 hgrow2 hat2 hlt2
       go_wp2_with fail
       go_roundw
       case rel=>exact⟨p+1,o++[txtView r],some ⟨g,0,none⟩,cap1,by omega,by go_num,by simp,OW4,HB4,Lib.hid (by rw[HST.out,HE.out,List.append_assoc]),by simp;omega⟩
       case measure=>simp [intOf];omega
      ·obtain rfl:p=qn:=by omega
       have hE:=HE.out
       rw[List.take_of_length_le (by rw[HK.out];exact Nat.le_refl _),HE2.out,<-HLP.out] at hE
       have HEE:=Lib.hid hE
       have hdl0:decide ((p:Int)<(p:Int))=false:=by simp
       clear hE HE
       go_wp2_with fail
       go_ret2
       refine⟨_,rfl,?_,HB.out⟩
       have h9:=OW.out
       have hE:=HEE.out
       first
        | (rw[<-hE];simpa using h9)
        | (rw[if_pos rfl,<-hE];simpa using h9)
end Go.Proofs.YtgopfpjinohncaaGreatDoor
