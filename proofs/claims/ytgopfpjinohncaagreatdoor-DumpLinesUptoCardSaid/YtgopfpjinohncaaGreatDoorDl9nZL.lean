/- dump.Lines, walked (printed by mkdl9.py). -/
import Derived.Test.YtgopfpjinohncaaGreatDoorDc9ZL
import Derived.Test.YtgopfpjinohncaaGreatDoorBaL
import Derived.Test.YtgopfpjinohncaaGreatDoorArzZL
import Derived.Test.YtgopfpjinohncaaGreatDoorShelfKZL
import Derived.Test.YtgopfpjinohncaaGreatDoorGcL
import Derived.Test.YtgopfpjinohncaaGreatDoorApZL
import Derived.Test.YtgopfpjinohncaaGreatDoorSkgZL
namespace Go.Proofs.YtgopfpjinohncaaGreatDoor
open Go.RowKit
set_option linter.unusedVariables false
theorem OwnS.mt {B:Nat} {Ts:List TypeId} {w w':World} {v:Value} {l:List (List UInt8)} (h:OwnS B w v l) (hm:MT 0 Ts w w') (ht:9 ∉ Ts):OwnS B w' v l:=hm.ownsRow h ht
theorem OwnS.form {B:Nat} {w:World} {v:Value} {l:List (List UInt8)} (h:OwnS B w v l):∃ a c,v=.slice a l.length c:=own_sl h
set_option maxHeartbeats 16000000 in
set_option maxRecDepth 100000 in
theorem dlines_any (w:World) (rv tv qv:Value) (rels:List Rln) (data:List Tbl) (qs:List Qry) (hR:RelsAt w rv rels) (hT:TblsAt w tv data) (hQ:QrysAt w qv qs) (bR:RlnB rels) (bT:∀ t∈data,RowsB t.rows) (bQ:∀ q∈qs,QryB q)
 (nR:rels.length<=1048576) (nT:nRows data<=4194304) (nQ:qs.length<=1048576) (hg:GlobW w) :
 Calls Tryz.prog 12 #[rv,tv,qv] w fun e w'=>∃ v,e=.returned (.tuple #[v,.int .i64 (chkD rels data qs)])/\OwnS w.heap.size w' v (if chkD rels data qs=0 then linesP rels data qs else [])/\Below w.heap.size w w':=by
 obtain⟨i0,hi0,hz0,hz1,hz2⟩:=info_parts Tryz.infoStr
 obtain⟨ir,hir,hr0,hr1,hr2⟩:=info_parts Tryz.infoRow
 have hck:=dcheck_any w rv tv qv rels data qs hR hT hQ bR bQ
 obtain⟨ra,rc,rfl,hrn,hrm⟩:=hR.form
 obtain⟨ta,tc,rfl,htn,htm⟩:=hT.form
 obtain⟨qa,qc,rfl,hqn,hqm⟩:=hQ.form
 unfold maxLen at hrm htm hqm
 have HR:=Lib.hid hR
 have HT:=Lib.hid hT
 have HQ:=Lib.hid hQ
 have BR:=Lib.hid bR
 have BT:=Lib.hid bT
 have BQ:=Lib.hid bQ
 have HG:=Lib.hid hg
 have HCK:=Lib.hid hck
 have NT:=Lib.hid nT
 obtain⟨E0,hE0⟩:∃ E0,chkD rels data qs=E0:=⟨_,rfl⟩
 rw[hE0] at HCK ⊢
 have HE0:=Lib.hid hE0
 have HLP:=Lib.hid (linesP_eq rels data qs)
 obtain⟨ALL,hALL⟩:∃ ALL,linesP rels data qs=ALL:=⟨_,rfl⟩
 rw[hALL] at HLP ⊢
 clear hR hT hQ bR bT bQ hg hck hE0 hALL nT
 generalize hN:rels.length=n at *
 generalize hM:data.length=m at *
 generalize hK:qs.length=qn at *
 have HN:=Lib.hid hN
 have HM:=Lib.hid hM
 have HK:=Lib.hid hK
 clear hN hM hK
 go_enter Tryz.func12,Tryz.ntmps12
 go_wp2_with fail
 refine HCK.out.mono ?_
 rintro e w1 ⟨rfl,hb1⟩
 have HB1:=Lib.hid hb1
 clear hb1 HCK
 by_cases h0:E0=0
 rotate_left
 ·have he:(E0 != 0)=true:=by simpa using h0
  go_wp2_with fail
  go_ret2
  refine⟨_,rfl,?_,HB1.out⟩
  first
   | exact World.ownsRow_nil _ _ _ _
   | (rw[if_neg h0];exact World.ownsRow_nil _ _ _ _)
 subst h0
 go_wp2_with fail
 go_loopw [9,28] (fun ov iv wr=>∃ (k:Nat) (o:List (List UInt8)) (oa:Option Addr) (oc:Nat),k<=n/\iv=.int .i64 k/\ov=.slice oa o.length oc/\Hid (OwnS w.heap.size wr (.slice oa o.length oc) o)/\Hid (Below w.heap.size w wr)/\Hid (o=(rels.take k).map txtRel)/\o.length<=k) (fun _ i _=>n - (intOf i).toNat)
 case atStart=>exact⟨0,[],none,0,Nat.zero_le _,rfl,rfl,Lib.hid (World.ownsRow_nil _ _ _ _),HB1,Lib.hid rfl,Nat.le_refl _⟩
 case round =>
  obtain⟨k,o,oa,oc,hk,rfl,rfl,OW,HB,HE,hol⟩:=hrel
  obtain⟨wo,rfl⟩:∃ wo:World,wo=wr:=⟨_,rfl⟩
  by_cases hlt:k<n
  ·obtain⟨r,hr⟩:∃ r,rels[k]? = some r:=⟨rels[k]'(by rw[HN.out];exact hlt),List.getElem?_eq_getElem (by rw[HN.out];exact hlt)⟩
   have hst:(rels.take (k+1)).map txtRel=(rels.take k).map txtRel++[txtRel r]:=by rw[List.take_add_one,hr];simp
   obtain⟨b1,o1,c1,cv,hv1,_,_,hl1,q0,q1,hcols,hcn⟩:=(HR.out.keep HB.out).get hr
   rw[HN.out] at hv1
   simp only[Value.slice.injEq,true_and] at hv1
   obtain⟨rfl,rfl⟩:=hv1
   have hbr:=BR.out r (List.mem_of_getElem? hr)
   obtain⟨ca,cc,rfl,_,_⟩:=hcols.form
   have hdk:decide ((k:Int)<0)=false:=by simp
   have hdn:decide ((n:Int)<=(k:Int))=false:=by simp;omega
   have bk:Below wo.heap.size wo (wo.alloc (.cells #[.string ⟨r.name.toArray⟩,.slice ca r.cols.length cc] 57)):=balloc (Below.refl _ _) _
   have hbx:=Blk.new wo 57 #[.string ⟨r.name.toArray⟩,.slice ca r.cols.length cc]
   have htx:=relText_ok _ r _ (ColsAt.keep hcols bk) (chkRl_all rels [] (chkD_zero HE0.out).1 r (List.mem_of_getElem? hr)) (HG.out.below (HB.out.trans (bk.mono HB.out.size)))
   have HTX:=Lib.hid htx
   have HBX:=Lib.hid hbx
   have HBK:=Lib.hid (HB.out.trans (bk.mono HB.out.size))
   have OWK:=Lib.hid (OW.out.mt (MT.ofBelow (B:=0) (Ts:=[]) bk) (by simp))
   have HST:=Lib.hid hst
   clear bk hbx htx hcols hr hst hbr
   generalize r.cols.length=rn at *
   obtain⟨W1,hW1⟩:∃ W1,wo.alloc (.cells #[.string ⟨r.name.toArray⟩,.slice ca rn cc] 57)=W1:=⟨_,rfl⟩
   rw[hW1] at HTX HBX HBK OWK
   have HW1:=Lib.hid hW1
   clear hW1
   have x0:=HBX.out.cell 0
   have x1:=HBX.out.cell 1
   have xl:=HBX.out.lt
   simp only[List.getElem?_toArray,List.getElem?_cons_zero,List.getElem?_cons_succ] at x0 x1
   go_upto_region 8 with fail
   rw[HW1.out]
   clear q0 q1
   go_wp2_with fail
   refine HTX.out.mono ?_
   rintro e w3 ⟨rfl,hb3⟩
   have OW3:=Lib.hid (OWK.out.mt (MT.ofBelow (B:=0) (Ts:=[]) hb3) (by simp))
   have HB3:=Lib.hid (HBK.out.trans (hb3.mono HBK.out.size))
   clear hb3 x0 x1 xl
   go_wp2_with (at_builtin;refine wpList_append_lies _ rfl (.tmp 32) (.tmp 36) 28 rfl w.heap.size 9 i0 (.string ⟨#[]⟩) 1 16 Tryz.underlying28 hi0 hz0 hz1 hz2 rfl (by decide) (.slice oa o.length oc) o.length _ rfl (OwnS.alloc OW3.out _) ⟨_,0,none⟩ 1 1 [.string ⟨(txtRel r).toArray⟩] rfl rfl (World.news_of_block (Blk.new _ _ _)) (by simp [Value.oneCell']) (by decide) ?c3 ?c5 ?c4 _ rfl ?_)
   case c3=>unfold maxLen;omega
   case c5=>omega
   case c4=>have:=HB3.out.size;simp;omega
   intro g cap1 w4 hown2 hgrow2 hat2 hlt2
   have HB4:=Lib.hid ((balloc HB3.out _).grown hgrow2 (by have:=HB3.out.size;simp;omega) (fun q hq=>(World.ownsRow.lt OW3.out q hq).1))
   have OW4:Hid (OwnS w.heap.size w4 (.slice (some ⟨g,0,none⟩) (o++[txtRel r]).length cap1) (o++[txtRel r])):=Lib.hid (by
    unfold OwnS
    simpa using hown2)
   clear hown2 hgrow2 hat2 hlt2
   go_wp2_with fail
   go_roundw
   case rel=>exact⟨k+1,o++[txtRel r],some ⟨g,0,none⟩,cap1,by omega,by go_num,by simp,OW4,HB4,Lib.hid (by rw[HST.out,<-HE.out]),by simp;omega⟩
   case measure=>simp [intOf];omega
  ·obtain rfl:k=n:=by omega
   have hE:=HE.out
   rw[List.take_of_length_le (by rw[HN.out];exact Nat.le_refl _)] at hE
   have HE1:=Lib.hid hE
   clear hE HE
   go_wp2_with fail
   go_loopw [9,41] (fun ov iv wr=>∃ (j:Nat) (o:List (List UInt8)) (oa:Option Addr) (oc:Nat),j<=k/\iv=.int .i64 j/\ov=.slice oa o.length oc/\Hid (OwnS w.heap.size wr (.slice oa o.length oc) o)/\Hid (Below w.heap.size w wr)/\Hid (o=rels.map txtRel++(rels.take j).flatMap (fun r=>goB r.name [] 0 (arrP (rowsIn r.name data))))/\o.length<=k+4194304 * j) (fun _ i _=>k - (intOf i).toNat)
   case atStart=>exact⟨0,o,oa,oc,Nat.zero_le _,rfl,rfl,OW,HB,Lib.hid (by rw[HE1.out];simp),by omega⟩
   clear OW HB HE1 hol
   case round =>
    obtain⟨j,o,oa,oc,hj,rfl,rfl,OW,HB,HE,hol⟩:=hrel
    obtain⟨wo,rfl⟩:∃ wo:World,wo=wr:=⟨_,rfl⟩
    by_cases hlt:j<k
    ·obtain⟨r,hr⟩:∃ r,rels[j]? = some r:=⟨rels[j]'(by rw[HN.out];exact hlt),List.getElem?_eq_getElem (by rw[HN.out];exact hlt)⟩
     have hst:(rels.take (j+1)).flatMap (fun r=>goB r.name [] 0 (arrP (rowsIn r.name data)))=(rels.take j).flatMap (fun r=>goB r.name [] 0 (arrP (rowsIn r.name data)))++goB r.name [] 0 (arrP (rowsIn r.name data)):=by rw[List.take_add_one,hr];simp
     obtain⟨b1,o1,c1,cv,hv1,_,_,hl1,q0,q1,hcols,hcn⟩:=(HR.out.keep HB.out).get hr
     rw[HN.out] at hv1
     simp only[Value.slice.injEq,true_and] at hv1
     obtain⟨rfl,rfl⟩:=hv1
     obtain⟨ca,cc,rfl,_,_⟩:=hcols.form
     have hmem:=List.mem_of_getElem? hr
     have hws:=fun z (hz:z∈arrP (rowsIn r.name data))=>word_small HE0.out BT.out hmem hz
     have hdk:decide ((j:Int)<0)=false:=by simp
     have hdn:decide ((k:Int)<=(j:Int))=false:=by simp;omega
     have bk:Below wo.heap.size wo (wo.alloc (.cells #[.string ⟨r.name.toArray⟩,.slice ca r.cols.length cc] 57)):=balloc (Below.refl _ _) _
     have hbx:=Blk.new wo 57 #[.string ⟨r.name.toArray⟩,.slice ca r.cols.length cc]
     have HBX:=Lib.hid hbx
     have HBK:=Lib.hid (HB.out.trans (bk.mono HB.out.size))
     have OWK:=Lib.hid (OW.out.mt (MT.ofBelow (B:=0) (Ts:=[]) bk) (by simp))
     have HST:=Lib.hid hst
     have HWS:=Lib.hid hws
     clear bk hbx hcols hr hst hmem hws
     generalize r.cols.length=rn at *
     obtain⟨W1,hW1⟩:∃ W1,wo.alloc (.cells #[.string ⟨r.name.toArray⟩,.slice ca rn cc] 57)=W1:=⟨_,rfl⟩
     rw[hW1] at HBX HBK OWK
     have HW1:=Lib.hid hW1
     obtain⟨bx,hbx⟩:∃ bx,wo.heap.size=bx:=⟨_,rfl⟩
     rw[hbx] at HBX
     have HBXX:=Lib.hid hbx
     clear hW1 hbx
     go_upto_region 13 with fail
     rw[HW1.out,HBXX.out]
     clear q0 q1
     go_wp2_with fail
     go_loopw [14,47] (fun rv iv wr=>∃ (p:Nat) (cells:List Value) (xa:Option Addr) (xc:Nat),p<=m/\iv=.int .i64 p/\rv=.slice xa cells.length xc/\Hid (wr.ownsRow w.heap.size 59 1 (.slice xa cells.length xc) cells.length cells)/\Hid (All2 (RoC w) cells (rowsIn r.name (data.take p)))/\Hid (OwnS w.heap.size wr (.slice oa o.length oc) o)/\Hid (Blk wr bx 57 #[.string ⟨r.name.toArray⟩,.slice ca rn cc])/\Hid (Below w.heap.size w wr)) (fun _ i _=>m - (intOf i).toNat)
     case atStart=>exact⟨0,[],none,0,Nat.zero_le _,rfl,rfl,Lib.hid (World.ownsRow_nil _ _ _ _),Lib.hid trivial,OWK,HBX,HBK⟩
     clear OW HB OWK HBX HBK
     case round =>
      obtain⟨p,cells,xa,xc,hp,rfl,rfl,HO,HA,OW,HX,HB⟩:=hrel
      obtain⟨wp,rfl⟩:∃ wp:World,wp=wr:=⟨_,rfl⟩
      have hcl:cells.length<=4194304:=by
       rw[HA.out.length]
       exact Nat.le_trans (rowsIn_len _ _) (Nat.le_trans (nRows_take _ _) NT.out)
      by_cases hpt:p<m
      ·obtain⟨t,ht⟩:∃ t,data[p]? = some t:=⟨data[p]'(by rw[HM.out];exact hpt),List.getElem?_eq_getElem (by rw[HM.out];exact hpt)⟩
       have hrt:=rowsIn_take (x:=r.name) ht
       obtain⟨b2,o2,c2,yv,hv2,_,_,hl2,q0,q1,hrows⟩:=(HT.out.keep HB.out).get ht
       rw[HM.out] at hv2
       simp only[Value.slice.injEq,true_and] at hv2
       obtain⟨rfl,rfl⟩:=hv2
       obtain⟨ya,yc,rfl,hyn,hym⟩:=hrows.form
       have hdk2:decide ((p:Int)<0)=false:=by simp
       have hdn2:decide ((m:Int)<=(p:Int))=false:=by simp;omega
       have hnt:t.rows.length<=4194304:=by
        have h1:=nRows_take data (p+1)
        rw[List.take_add_one,ht] at h1
        have h2:=NT.out
        unfold nRows at h1 h2
        simp at h1
        omega
       have hrows0:∃ cs2,All2 (RoC w) cs2 t.rows/\RowAt wp (.slice ya t.rows.length yc) 1 (cs2.map fun x=>[x]):=by
        have hg2:=HT.out.get ht
        obtain⟨b3,o3,c3,zv,hv3,_,_,hl3,z0,z1,hrw⟩:=hg2
        rw[HM.out] at hv3
        simp only[Value.slice.injEq,Option.some.injEq,Addr.mk.injEq,and_true,true_and] at hv3
        obtain⟨⟨rfl,rfl⟩,rfl⟩:=hv3
        have hz:=(HB.out.cell (p:=⟨b2,o2+p * 2+1,none⟩) hl3).trans z1
        rw[q1] at hz
        simp only[Option.some.injEq] at hz
        subst hz
        obtain⟨rows3,h3,h4⟩:=hrw
        obtain⟨cs2,rfl,h5⟩:=rows_of_all2 (w:=w) (v:=.slice none 0 0) h4
        exact⟨cs2,h5,h3.keep HB.out⟩
       obtain⟨cs2,hcs2,hrow2⟩:=hrows0
       have hcl2:=hcs2.length
       have bk:Below wp.heap.size wp (wp.alloc (.cells #[.string ⟨t.rel.toArray⟩,.slice ya t.rows.length yc] 47)):=balloc (Below.refl _ _) _
       have hbx:=Blk.new wp 47 #[.string ⟨t.rel.toArray⟩,.slice ya t.rows.length yc]
       have mk:=MT.ofBelow (B:=0) (Ts:=[]) bk
       have HY:=Lib.hid hbx
       have HX1:=Lib.hid (HX.out.mt mk (by simp))
       have HO1:=Lib.hid (mk.ownsRow HO.out (by simp))
       have OW1:=Lib.hid (OW.out.mt mk (by simp))
       have HB1':=Lib.hid (HB.out.trans (bk.mono HB.out.size))
       have HR2:=Lib.hid (hrow2.keep bk)
       have HC2:=Lib.hid hcs2
       have HRT:=Lib.hid hrt
       have HL2:=Lib.hid hcl2
       clear bk hbx mk hrows ht hrt hcs2 hrow2 hcl2
       obtain⟨tn,htn'⟩:∃ tn,t.rows.length=tn:=⟨_,rfl⟩
       rw[htn'] at HY HR2 hnt HL2
       have HTN:=Lib.hid htn'
       obtain⟨W2,hW2⟩:∃ W2,wp.alloc (.cells #[.string ⟨t.rel.toArray⟩,.slice ya tn yc] 47)=W2:=⟨_,rfl⟩
       rw[htn'] at HX1 HO1 OW1 HB1'
       rw[hW2] at HX1 HO1 OW1 HB1' HR2
       rw[hW2] at HY
       have HW2:=Lib.hid hW2
       clear hW2 htn' HO OW HX HB
       go_upto_region 17 with fail
       rw[HTN.out,HW2.out]
       clear q0 q1
       have x0:=HX1.out.cell 0
       have xl:=HX1.out.lt
       have y0:=HY.out.cell 0
       have y1:=HY.out.cell 1
       have yl:=HY.out.lt
       simp only[List.getElem?_toArray,List.getElem?_cons_zero,List.getElem?_cons_succ] at x0 y0 y1
       by_cases hnm:t.rel=r.name
       ·rw[hnm] at y0
        go_wp2_with (at_builtin;refine wpList_append_row _ rfl (.tmp 56) (.tmp 58) 45 rfl w.heap.size 59 ir (.slice none 0 0) 1 24 Tryz.underlying45 hir hr0 hr1 hr2 rfl (by decide) (.slice xa cells.length xc) cells.length cells rfl HO1.out (.slice ya tn yc) rfl (cs2.map fun x=>[x]) HR2.out (fun x hx=>by obtain⟨y,_,rfl⟩:=List.mem_map.1 hx;rfl) (ro_one HC2.out) ?c1 ?c2 ?c3 ?_)
        case c1=>rw[List.length_map,HL2.out];unfold maxLen;omega
        case c2=>rw[List.length_map,HL2.out];omega
        case c3=>exact HB1'.out.size
        intro v1 w5 hown1 hgrow1
        rw[ones_flat] at hown1
        try rw[List.length_map] at hown1
        have m5:MT 0 [59] W2 w5:=(MT.refl W2).grown hgrow1 HO1.out (by simp) (Nat.zero_le _)
        have hb5:Below w.heap.size w w5:=HB1'.out.grown hgrow1 HB1'.out.size (fun q hq=>(World.ownsRow.lt HO1.out q hq).1)
        obtain⟨va,vc,rfl⟩:=own_sl hown1
        have HO5:Hid (w5.ownsRow w.heap.size 59 1 (.slice va (cells++cs2).length vc) (cells++cs2).length (cells++cs2)):=Lib.hid (by simpa using hown1)
        have OW5:=Lib.hid (OW1.out.mt m5 (by decide))
        have HX5:=Lib.hid (HX1.out.mt m5 (by decide))
        have HB5:=Lib.hid hb5
        clear hown1 hgrow1 m5 hb5 x0 xl y0 y1 yl
        go_wp2_with fail
        go_roundw
        case rel=>exact⟨p+1,cells++cs2,va,vc,by omega,by go_num,by simp,HO5,Lib.hid (by rw[HRT.out,if_pos hnm];exact all2_app2 HA.out HC2.out),OW5,HX5,HB5⟩
        case measure=>simp [intOf];omega
       ·have hne:¬ ((⟨t.rel.toArray⟩:ByteArray)=⟨r.name.toArray⟩):=fun e=>hnm (bytes_eq.1 e)
        have hne2:(t.rel == r.name)=false:=beq_eq_false_iff_ne.2 hnm
        have hne3:((⟨t.rel.toArray⟩:ByteArray).toList == (⟨r.name.toArray⟩:ByteArray).toList)=false:=by rw[ByteArray.toList_eq,ByteArray.toList_eq];simpa using hnm
        have hne4:((⟨t.rel.toArray⟩:ByteArray).data.toList == (⟨r.name.toArray⟩:ByteArray).data.toList)=false:=by simpa using hnm
        go_wp2_with fail
        go_roundw
        case rel=>exact⟨p+1,cells,xa,xc,by omega,by go_num,rfl,HO1,Lib.hid (by rw[HRT.out,if_neg hnm,List.append_nil];exact HA.out),OW1,HX1,HB1'⟩
        case measure=>simp [intOf];omega
      ·obtain rfl:p=m:=by omega
       have hA:=HA.out
       rw[List.take_of_length_le (by rw[HM.out];exact Nat.le_refl _)] at hA
       have har:=fun W (hW:Below wp.heap.size wp W)=>arrange_any W (.slice xa cells.length xc) (rowsIn r.name data) (RowsAt.ofOwn1 ((MT.ofBelow (B:=0) (Ts:=[]) hW).ownsRow HO.out (by simp)) hA.length.symm (by omega) (hA.mono fun b a hh=>⟨hh.1.keep (HB.out.trans (hW.mono HB.out.size)),hh.2⟩)) (by rw[<-hA.length];omega)
       have hal:=arrP_len (rowsIn r.name data)
       rw[<-hA.length] at hal
       have HAR:=Lib.hid har
       have HAL:=Lib.hid hal
       clear hA har hal HA HO
       go_upto_region 20 with fail
       obtain⟨SS,hSS⟩:∃ SS:World->Prop,SS=fun W'=>Blk W' bx 57 #[.string ⟨r.name.toArray⟩,.slice ca rn cc]:=⟨_,rfl⟩
       have HSS:SS wp.drew:=by rw[hSS];exact HX.out.drew
       have HSX:=Lib.hid (fun W (q:SS W)=>(by rw[hSS] at q;exact q:Blk W bx 57 #[.string ⟨r.name.toArray⟩,.slice ca rn cc]))
       have HSM:=Lib.hid (fun W (q:Blk W bx 57 #[.string ⟨r.name.toArray⟩,.slice ca rn cc])=>(by rw[hSS];exact q:SS W))
       clear hSS
       refine wp_region_held_drew (by kernel_rfl) HSS (fun _=>?_)
       refine Held.take 0 61 (v:=?_) rfl rfl (by kernel_rfl) (by kernel_rfl) (by kernel_rfl) (fun _ _ _ _ h=>h) (by kernel_rfl) HSS ?_ ?_
       rotate_left
       ·intro u hu
        go_simp
        try with_reducible rfl
       try simp only[List.setIfInBounds_toArray,List.set_cons_succ,List.set_cons_zero]
       refine Held.take 1 62 (v:=?_) rfl rfl (by kernel_rfl) (by kernel_rfl) (by kernel_rfl) (fun _ _ _ _ h=>h) (by kernel_rfl) HSS ?_ ?_
       rotate_left
       ·intro u hu
        go_simp
        try with_reducible rfl
       try simp only[List.setIfInBounds_toArray,List.set_cons_succ,List.set_cons_zero]
       refine Held.take 2 63 (v:=?_) rfl rfl (by kernel_rfl) (by kernel_rfl) (by kernel_rfl) (fun _ _ _ _ h=>h) (by kernel_rfl) HSS ?_ ?_
       rotate_left
       ·intro u hu
        have hq:=HSX.out u hu
        have k0:=hq.cell 0
        simp only[List.getElem?_toArray,List.getElem?_cons_zero] at k0
        have kl:=hq.lt
        clear hq
        go_simp
        try with_reducible rfl
       try simp only[List.setIfInBounds_toArray,List.set_cons_succ,List.set_cons_zero]
       refine Held.take 3 64 (v:=?_) rfl rfl (by kernel_rfl) (by kernel_rfl) (by kernel_rfl) (fun _ _ _ _ h=>h) (by kernel_rfl) HSS ?_ ?_
       rotate_left
       ·intro u hu
        go_simp
        try with_reducible rfl
       try simp only[List.setIfInBounds_toArray,List.set_cons_succ,List.set_cons_zero]
       refine Held.one 4 rfl (by kernel_rfl) (fun K hK=>?_)
       go_simp
       refine (HAR.out _ (bdrew (Below.refl _ _))).mono ?_
       rintro e w5 ⟨v5,rfl,hra,hb5⟩
       have b5:Below wp.heap.size wp w5:=(bdrew (Below.refl wp.heap.size wp)).trans hb5
       have HX5:=Lib.hid (HX.out.below b5 HX.out.lt)
       have OW5:=Lib.hid (OW.out.mt (MT.ofBelow (B:=0) (Ts:=[]) b5) (by simp))
       have HB5:=Lib.hid (HB.out.trans (b5.mono HB.out.size))
       have HSS5:=HSM.out _ HX5.out
       have hbt:=batches_any w5 r.name v5 (arrP (rowsIn r.name data)) hra (fun z hz=>(HWS.out z hz).1) (fun z hz=>(HWS.out z hz).2) (by have:=HAL.out;omega) (HG.out.below HB5.out).g
       have HBT:=Lib.hid hbt
       refine hK.out _ _ HSS5 ?_
       clear hK K HSS hra hb5 b5 hbt HX OW HB HAR
       try simp only[List.setIfInBounds_toArray,List.set_cons_succ,List.set_cons_zero]
       refine Held.one 5 rfl (by kernel_rfl) (fun K hK=>?_)
       go_simp
       refine HBT.out.mono ?_
       rintro e w6 ⟨v6,rfl,hown6,hb6⟩
       have HX6:=Lib.hid (HX5.out.below hb6 HX5.out.lt)
       have OW6:=Lib.hid (OW5.out.mt (MT.ofBelow (B:=0) (Ts:=[]) hb6) (by simp))
       have HB6:=Lib.hid (HB5.out.trans (hb6.mono HB5.out.size))
       have HSS6:=HSM.out _ HX6.out
       obtain⟨LN,hLN⟩:∃ LN,goB r.name [] 0 (arrP (rowsIn r.name data))=LN:=⟨_,rfl⟩
       have hlen:=goB_len r.name (arrP (rowsIn r.name data)) [] 0
       rw[hLN,if_pos rfl] at hlen
       rw[hLN] at hown6
       have hln:LN.length<=4194304:=by have:=HAL.out;omega
       have hst:=hown6.strs (by omega)
       have HS6:=Lib.hid hst
       have HLN:=Lib.hid hLN
       refine hK.out _ _ HSS6 ?_
       clear hK K HSS5 hown6 hb6 HX5 OW5 HB5 HBT hlen hst hLN
       try simp only[List.setIfInBounds_toArray,List.set_cons_succ,List.set_cons_zero]
       refine Held.one 6 rfl (by kernel_rfl) (fun K hK=>?_)
       refine step_append_row rfl (.tmp 61) (.tmp 66) 28 rfl w.heap.size 9 i0 (.string ⟨#[]⟩) 1 16 Tryz.underlying28 hi0 hz0 hz1 hz2 rfl (by decide) (.slice oa o.length oc) o.length _ rfl OW6.out v6 rfl (LN.map strC) HS6.out (strC_len LN) (strC_one LN) (by rw[List.length_map];unfold maxLen;omega) (by rw[List.length_map];omega) HB6.out.size ?_
       intro v7 w7 hown7 hgrow7
       have m7:MT 0 [9] w6 w7:=(MT.refl w6).grown hgrow7 OW6.out (by simp) (Nat.zero_le _)
       have HX7:=Lib.hid (HX6.out.mt m7 (by decide))
       have HSS7:=HSM.out _ HX7.out
       have HB7:=Lib.hid (HB6.out.grown hgrow7 HB6.out.size (fun q hq=>(World.ownsRow.lt OW6.out q hq).1))
       have ho7:OwnS w.heap.size w7 v7 (o++LN):=by
        unfold OwnS
        rw[strC_flat,List.length_map] at hown7
        simpa using hown7
       obtain⟨va,vc,rfl⟩:=ho7.form
       have OW7:=Lib.hid ho7
       refine hK.out _ _ HSS7 ?_
       clear hK K HSS6 hown7 hgrow7 m7 HX6 OW6 HB6 HX7 ho7 HS6
       try simp only[List.setIfInBounds_toArray,List.set_cons_succ,List.set_cons_zero]
       refine Held.one 7 rfl (by kernel_rfl) (fun K hK=>?_)
       go_simp
       refine hK.out _ _ HSS7 ?_
       clear hK K HSS7 HSX HSM
       try simp only[List.setIfInBounds_toArray,List.set_cons_succ,List.set_cons_zero]
       refine wpAnyH_done (by kernel_rfl) ?_ _
       go_wp2_with fail
       go_roundw
       case rel=>exact⟨j+1,o++LN,va,vc,by omega,by go_num,by simp,OW7,HB7,Lib.hid (by rw[HST.out,HLN.out,HE.out,List.append_assoc]),by rw[List.length_append];omega⟩
       case measure=>simp [intOf];omega
    ·obtain rfl:j=k:=by omega
     have hE:=HE.out
     rw[List.take_of_length_le (by rw[HN.out];exact Nat.le_refl _)] at hE
     have HE2:=Lib.hid hE
     obtain⟨o2,ho2⟩:∃ o2,o=o2:=⟨_,rfl⟩
     have hol2:o2.length<=4398047559680:=by rw[<-ho2];omega
     rw[ho2] at HE2
     have HO2:=Lib.hid ho2
     clear hE HE
     go_wp2_with fail
     go_loopw [9,71] (fun ov iv wr=>∃ (p:Nat) (o:List (List UInt8)) (oa:Option Addr) (oc:Nat),p<=qn/\iv=.int .i64 p/\ov=.slice oa o.length oc/\Hid (OwnS w.heap.size wr (.slice oa o.length oc) o)/\Hid (Below w.heap.size w wr)/\Hid (o=o2++(qs.take p).map txtView)/\o.length<=o2.length+p) (fun _ i _=>qn - (intOf i).toNat)
     case atStart=>exact⟨0,o,oa,oc,Nat.zero_le _,rfl,rfl,OW,HB,Lib.hid (by rw[HO2.out];simp),by rw[HO2.out];exact Nat.le_refl _⟩
     clear OW HB HO2 ho2 hol
     case round =>
      obtain⟨p,o,oa,oc,hp,rfl,rfl,OW,HB,HE,hol⟩:=hrel
      obtain⟨wo,rfl⟩:∃ wo:World,wo=wr:=⟨_,rfl⟩
      by_cases hlt:p<qn
      ·obtain⟨r,hr⟩:∃ r,qs[p]? = some r:=⟨qs[p]'(by rw[HK.out];exact hlt),List.getElem?_eq_getElem (by rw[HK.out];exact hlt)⟩
       have hst:(qs.take (p+1)).map txtView=(qs.take p).map txtView++[txtView r]:=by rw[List.take_add_one,hr];simp
       obtain⟨b1,o1,c1,hv,av,hv1,_,_,hl1,q0,q1,q2,hh,ha⟩:=(HQ.out.keep HB.out).get hr
       rw[HK.out] at hv1
       simp only[Value.slice.injEq,true_and] at hv1
       obtain⟨rfl,rfl⟩:=hv1
       have hbr:=BQ.out r (List.mem_of_getElem? hr)
       obtain⟨ha1,hc1,rfl,_,_⟩:=hh.form
       obtain⟨aa1,ac1,rfl,_,_⟩:=ha.form
       have hdk:decide ((p:Int)<0)=false:=by simp
       have hdn:decide ((qn:Int)<=(p:Int))=false:=by simp;omega
       have bk:Below wo.heap.size wo (wo.alloc (.cells #[.string ⟨r.name.toArray⟩,.slice ha1 r.head.length hc1,.slice aa1 r.atoms.length ac1] 50)):=balloc (Below.refl _ _) _
       have hbx:=Blk.new wo 50 #[.string ⟨r.name.toArray⟩,.slice ha1 r.head.length hc1,.slice aa1 r.atoms.length ac1]
       have htx:=viewText_ok _ r _ _ (RowAt.keep hh bk) (ha.keep bk) hbr (chkQl_all qs [] (chkD_three HE0.out).2.2 r (List.mem_of_getElem? hr)) (HG.out.below (HB.out.trans (bk.mono HB.out.size)))
       have HTX:=Lib.hid htx
       have HBX:=Lib.hid hbx
       have HBK:=Lib.hid (HB.out.trans (bk.mono HB.out.size))
       have OWK:=Lib.hid (OW.out.mt (MT.ofBelow (B:=0) (Ts:=[]) bk) (by simp))
       have HST:=Lib.hid hst
       clear bk hbx htx hh ha hr hst hbr
       generalize r.head.length=n1 at *
       generalize r.atoms.length=n2 at *
       obtain⟨W1,hW1⟩:∃ W1,wo.alloc (.cells #[.string ⟨r.name.toArray⟩,.slice ha1 n1 hc1,.slice aa1 n2 ac1] 50)=W1:=⟨_,rfl⟩
       rw[hW1] at HTX HBX HBK OWK
       have HW1:=Lib.hid hW1
       clear hW1
       have x0:=HBX.out.cell 0
       have x1:=HBX.out.cell 1
       have x2:=HBX.out.cell 2
       have xl:=HBX.out.lt
       simp only[List.getElem?_toArray,List.getElem?_cons_zero,List.getElem?_cons_succ] at x0 x1 x2
       go_upto_region 25 with fail
       rw[HW1.out]
       clear q0 q1 q2
       go_wp2_with fail
       refine HTX.out.mono ?_
       rintro e w3 ⟨rfl,hb3⟩
       have OW3:=Lib.hid (OWK.out.mt (MT.ofBelow (B:=0) (Ts:=[]) hb3) (by simp))
       have HB3:=Lib.hid (HBK.out.trans (hb3.mono HBK.out.size))
       clear hb3 x0 x1 x2 xl
       go_wp2_with (at_builtin;refine wpList_append_lies _ rfl (.tmp 75) (.tmp 79) 28 rfl w.heap.size 9 i0 (.string ⟨#[]⟩) 1 16 Tryz.underlying28 hi0 hz0 hz1 hz2 rfl (by decide) (.slice oa o.length oc) o.length _ rfl (OwnS.alloc OW3.out _) ⟨_,0,none⟩ 1 1 [.string ⟨(txtView r).toArray⟩] rfl rfl (World.news_of_block (Blk.new _ _ _)) (by simp [Value.oneCell']) (by decide) ?c3 ?c5 ?c4 _ rfl ?_)
       case c3=>unfold maxLen;omega
       case c5=>omega
       case c4=>have:=HB3.out.size;simp;omega
       intro g cap1 w4 hown2 hgrow2 hat2 hlt2
       have HB4:=Lib.hid ((balloc HB3.out _).grown hgrow2 (by have:=HB3.out.size;simp;omega) (fun q hq=>(World.ownsRow.lt OW3.out q hq).1))
       have OW4:Hid (OwnS w.heap.size w4 (.slice (some ⟨g,0,none⟩) (o++[txtView r]).length cap1) (o++[txtView r])):=Lib.hid (by
        unfold OwnS
        simpa using hown2)
       clear hown2 hgrow2 hat2 hlt2
       go_wp2_with fail
       go_roundw
       case rel=>exact⟨p+1,o++[txtView r],some ⟨g,0,none⟩,cap1,by omega,by go_num,by simp,OW4,HB4,Lib.hid (by rw[HST.out,HE.out,List.append_assoc]),by simp;omega⟩
       case measure=>simp [intOf];omega
      ·obtain rfl:p=qn:=by omega
       have hE:=HE.out
       rw[List.take_of_length_le (by rw[HK.out];exact Nat.le_refl _),HE2.out,<-HLP.out] at hE
       have HEE:=Lib.hid hE
       clear hE HE
       go_wp2_with fail
       go_ret2
       refine⟨_,rfl,?_,HB.out⟩
       have h9:=OW.out
       have hE:=HEE.out
       first
        | (rw[<-hE];simpa using h9)
        | (rw[if_pos rfl,<-hE];simpa using h9)
end Go.Proofs.YtgopfpjinohncaaGreatDoor
