/- dump.Lines, walked (printed by mkdl9.py). -/
import Derived.Test.YtgopfpjinohncaaGreatDoorLawWZF
import Derived.Test.YtgopfpjinohncaaGreatDoorShelfRZF
import Derived.Test.YtgopfpjinohncaaGreatDoorShelfKZF
set_option maxHeartbeats 16000000
set_option maxRecDepth 100000
set_option linter.unusedVariables false
namespace Go.Proofs.YtgopfpjinohncaaGreatDoor
open Go.Proofs.Tryz
open Go.RowKit
theorem aV.mt {B:Nat} {Ts:List TypeId} {w w':World} {v:Value} {l:List (List UInt8)} (h:aV B w v l) (hm:MT 0 Ts w w') (ht:9 ∉ Ts):aV B w' v l:=hm.ownsRow h ht
theorem aV.form {B:Nat} {w:World} {v:Value} {l:List (List UInt8)} (h:aV B w v l):∃ a c,v=.slice a l.length c:=aB h
theorem nN (w:World) (rv tv qv:Value) (rels:List aU) (data:List eC) (qs:List cf) (hR:bj w rv rels) (hT:du w tv data) (hQ:bZ w qv qs) (bR:AD rels) (bT:∀ t∈data,gk t.rows) (bQ:∀ q∈qs,iG q)
 (nR:rels.length<=1048576) (nT:dy data<=4194304) (nQ:qs.length<=1048576) (hg:d8 w) :
 Calls prog 12 #[rv,tv,qv] w fun e w'=>∃ v,e=.returned (.tuple #[v,.int .i64 (hO rels data qs)])/\aV w.heap.size w' v (if hO rels data qs=0 then fV rels data qs else [])/\Below w.heap.size w w':=by
 obtain⟨i0,hi0,hz0,hz1,hz2⟩:=info_parts Tryz.infoStr
 obtain⟨ir,hir,hr0,hr1,hr2⟩:=info_parts Tryz.infoRow
 have hck:=uX w rv tv qv rels data qs hR hT hQ bR bQ
 obtain⟨ra,rc,rfl,hrn,hrm⟩:=hR.form
 obtain⟨ta,tc,rfl,htn,htm⟩:=hT.form
 obtain⟨qa,qc,rfl,hqn,hqm⟩:=hQ.form
 unfold maxLen at hrm htm hqm
 have HR:=Fx hR
 have HT:=Fx hT
 have HQ:=Fx hQ
 have BR:=Fx bR
 have BT:=Fx bT
 have BQ:=Fx bQ
 have HG:=Fx hg
 have HCK:=Fx hck
 have NT:=Fx nT
 obtain⟨E0,hE0⟩:∃ E0,hO rels data qs=E0:=⟨_,rfl⟩
 rw[hE0] at HCK ⊢
 have HE0:=Fx hE0
 have HLP:=Fx (pi rels data qs)
 obtain⟨ALL,hALL⟩:∃ ALL,fV rels data qs=ALL:=⟨_,rfl⟩
 rw[hALL] at HLP ⊢
 clear hR hT hQ bR bT bQ hg hck hE0 hALL nT
 generalize hN:rels.length=n at *
 generalize hM:data.length=m at *
 generalize hK:qs.length=qn at *
 have HN:=Fx hN
 have HM:=Fx hM
 have HK:=Fx hK
 clear hN hM hK
 go_enter func12,ntmps12
 go_wp2_with fail
 refine HCK.out.mono ?_
 rintro e w1 ⟨rfl,hb1⟩
 have HB1:=Fx hb1
 clear hb1 HCK
 by_cases h0:E0=0
 rotate_left
 ·have he:(E0 != 0)=true:=by simpa using h0
  go_wp2_with fail
  go_ret2
  refine⟨_,rfl,?_,HB1.out⟩
  first
   | exact World.ownsRow_nil _ _ _ _
   | (rw[if_neg h0];exact World.ownsRow_nil _ _ _ _)
 subst h0
 go_wp2_with fail
 go_loopw [9,28] (fun ov iv wr=>∃ (k:Nat) (o:List (List UInt8)) (oa:Option Addr) (oc:Nat),k<=n/\iv=.int .i64 k/\ov=.slice oa o.length oc/\Hid (aV w.heap.size wr (.slice oa o.length oc) o)/\Hid (Below w.heap.size w wr)/\Hid (o=(rels.take k).map cE)/\o.length<=k) (fun _ i _=>n - (intOf i).toNat)
 case atStart=>exact⟨0,[],none,0,Fz,rfl,rfl,Fx (World.ownsRow_nil _ _ _ _),HB1,Fx rfl,FA⟩
 case round =>
  obtain⟨k,o,oa,oc,hk,rfl,rfl,OW,HB,HE,hol⟩:=hrel
  obtain⟨wo,rfl⟩:∃ wo:World,wo=wr:=⟨_,rfl⟩
  by_cases hlt:k<n
  ·obtain⟨r,hr⟩:∃ r,rels[k]? = some r:=⟨rels[k]'(by rw[HN.out];exact hlt),FD (by rw[HN.out];exact hlt)⟩
   have hst:(rels.take (k+1)).map cE=(rels.take k).map cE++[cE r]:=by rw[List.take_add_one,hr];simp
   obtain⟨b1,o1,c1,cv,hv1,_,_,hl1,q0,q1,hcols,hcn⟩:=(HR.out.keep HB.out).get hr
   rw[HN.out] at hv1
   simp only[Value.slice.injEq,true_and] at hv1
   obtain⟨rfl,rfl⟩:=hv1
   have hbr:=BR.out r (FC hr)
   obtain⟨ca,cc,rfl,_,_⟩:=hcols.form
   have hdk:decide ((k:Int)<0)=false:=by simp
   have hdn:decide ((n:Int)<=(k:Int))=false:=by simp;omega
   have bk:Below wo.heap.size wo (wo.alloc (.cells #[.string ⟨r.name.toArray⟩,.slice ca r.cols.length cc] 57)):=ae Fy _
   have hbx:=af.new wo 57 #[.string ⟨r.name.toArray⟩,.slice ca r.cols.length cc]
   have htx:=wn _ r _ (aO.keep hcols bk) (eT rels [] (lC HE0.out).1 r (FC hr)) (HG.out.below (HB.out.trans (bk.mono HB.out.size)))
   have HTX:=Fx htx
   have HBX:=Fx hbx
   have HBK:=Fx (HB.out.trans (bk.mono HB.out.size))
   have OWK:=Fx (OW.out.mt (MT.ofBelow (B:=0) (Ts:=[]) bk) (by simp))
   have HST:=Fx hst
   clear bk hbx htx hcols hr hst hbr
   generalize r.cols.length=rn at *
   obtain⟨W1,hW1⟩:∃ W1,wo.alloc (.cells #[.string ⟨r.name.toArray⟩,.slice ca rn cc] 57)=W1:=⟨_,rfl⟩
   rw[hW1] at HTX HBX HBK OWK
   have HW1:=Fx hW1
   clear hW1
   have x0:=HBX.out.cell 0
   have x1:=HBX.out.cell 1
   have xl:=HBX.out.lt
   simp only[FF] at x0 x1
   go_upto_region 8 with fail
   rw[HW1.out]
   clear q0 q1
   go_wp2_with fail
   refine HTX.out.mono ?_
   rintro e w3 ⟨rfl,hb3⟩
   have OW3:=Fx (OWK.out.mt (MT.ofBelow (B:=0) (Ts:=[]) hb3) (by simp))
   have HB3:=Fx (HBK.out.trans (hb3.mono HBK.out.size))
   clear hb3 x0 x1 xl
   go_wp2_with (at_builtin;refine wpList_append_lies _ rfl (.tmp 32) (.tmp 36) 28 rfl w.heap.size 9 i0 (.string ⟨#[]⟩) 1 16 underlying28 hi0 hz0 hz1 hz2 rfl (by decide) (.slice oa o.length oc) o.length _ rfl (aV.alloc OW3.out _) ⟨_,0,none⟩ 1 1 [.string ⟨(cE r).toArray⟩] rfl rfl (World.news_of_block (af.new _ _ _)) (by simp [Value.oneCell']) (by decide) ?c3 ?c5 ?c4 _ rfl ?_)
   case c3=>unfold maxLen;omega
   case c5=>omega
   case c4=>have:=HB3.out.size;simp;omega
   intro g cap1 w4 hown2 hgrow2 hat2 hlt2
   have HB4:=Fx ((ae HB3.out _).grown hgrow2 (by have:=HB3.out.size;simp;omega) (fun q hq=>(World.ownsRow.lt OW3.out q hq).1))
   have OW4:Hid (aV w.heap.size w4 (.slice (some ⟨g,0,none⟩) (o++[cE r]).length cap1) (o++[cE r])):=Fx (by
    unfold aV
    simpa using hown2)
   clear hown2 hgrow2 hat2 hlt2
   go_wp2_with fail
   go_roundw
   case rel=>exact⟨k+1,o++[cE r],some ⟨g,0,none⟩,cap1,by omega,by go_num,by simp,OW4,HB4,Fx (by rw[HST.out,<-HE.out]),by simp;omega⟩
   case measure=>simp [intOf];omega
  ·obtain rfl:k=n:=by omega
   have hE:=HE.out
   rw[List.take_of_length_le (by rw[HN.out];exact FA)] at hE
   have HE1:=Fx hE
   clear hE HE
   go_wp2_with fail
   go_loopw [9,41] (fun ov iv wr=>∃ (j:Nat) (o:List (List UInt8)) (oa:Option Addr) (oc:Nat),j<=k/\iv=.int .i64 j/\ov=.slice oa o.length oc/\Hid (aV w.heap.size wr (.slice oa o.length oc) o)/\Hid (Below w.heap.size w wr)/\Hid (o=rels.map cE++(rels.take j).flatMap (fun r=>jr r.name [] 0 (dX (aT r.name data))))/\o.length<=k+4194304 * j) (fun _ i _=>k - (intOf i).toNat)
   case atStart=>exact⟨0,o,oa,oc,Fz,rfl,rfl,OW,HB,Fx (by rw[HE1.out];simp),by omega⟩
   clear OW HB HE1 hol
   case round =>
    obtain⟨j,o,oa,oc,hj,rfl,rfl,OW,HB,HE,hol⟩:=hrel
    obtain⟨wo,rfl⟩:∃ wo:World,wo=wr:=⟨_,rfl⟩
    by_cases hlt:j<k
    ·obtain⟨r,hr⟩:∃ r,rels[j]? = some r:=⟨rels[j]'(by rw[HN.out];exact hlt),FD (by rw[HN.out];exact hlt)⟩
     have hst:(rels.take (j+1)).flatMap (fun r=>jr r.name [] 0 (dX (aT r.name data)))=(rels.take j).flatMap (fun r=>jr r.name [] 0 (dX (aT r.name data)))++jr r.name [] 0 (dX (aT r.name data)):=by rw[List.take_add_one,hr];simp
     obtain⟨b1,o1,c1,cv,hv1,_,_,hl1,q0,q1,hcols,hcn⟩:=(HR.out.keep HB.out).get hr
     rw[HN.out] at hv1
     simp only[Value.slice.injEq,true_and] at hv1
     obtain⟨rfl,rfl⟩:=hv1
     obtain⟨ca,cc,rfl,_,_⟩:=hcols.form
     have hmem:=FC hr
     have hws:=fun z (hz:z∈dX (aT r.name data))=>uB HE0.out BT.out hmem hz
     have hdk:decide ((j:Int)<0)=false:=by simp
     have hdn:decide ((k:Int)<=(j:Int))=false:=by simp;omega
     have bk:Below wo.heap.size wo (wo.alloc (.cells #[.string ⟨r.name.toArray⟩,.slice ca r.cols.length cc] 57)):=ae Fy _
     have hbx:=af.new wo 57 #[.string ⟨r.name.toArray⟩,.slice ca r.cols.length cc]
     have HBX:=Fx hbx
     have HBK:=Fx (HB.out.trans (bk.mono HB.out.size))
     have OWK:=Fx (OW.out.mt (MT.ofBelow (B:=0) (Ts:=[]) bk) (by simp))
     have HST:=Fx hst
     have HWS:=Fx hws
     clear bk hbx hcols hr hst hmem hws
     generalize r.cols.length=rn at *
     obtain⟨W1,hW1⟩:∃ W1,wo.alloc (.cells #[.string ⟨r.name.toArray⟩,.slice ca rn cc] 57)=W1:=⟨_,rfl⟩
     rw[hW1] at HBX HBK OWK
     have HW1:=Fx hW1
     obtain⟨bx,hbx⟩:∃ bx,wo.heap.size=bx:=⟨_,rfl⟩
     rw[hbx] at HBX
     have HBXX:=Fx hbx
     clear hW1 hbx
     go_upto_region 13 with fail
     rw[HW1.out,HBXX.out]
     clear q0 q1
     go_wp2_with fail
     go_loopw [14,47] (fun rv iv wr=>∃ (p:Nat) (cells:List Value) (xa:Option Addr) (xc:Nat),p<=m/\iv=.int .i64 p/\rv=.slice xa cells.length xc/\Hid (wr.ownsRow w.heap.size 59 1 (.slice xa cells.length xc) cells.length cells)/\Hid (aH (C0 w) cells (aT r.name (data.take p)))/\Hid (aV w.heap.size wr (.slice oa o.length oc) o)/\Hid (af wr bx 57 #[.string ⟨r.name.toArray⟩,.slice ca rn cc])/\Hid (Below w.heap.size w wr)) (fun _ i _=>m - (intOf i).toNat)
     case atStart=>exact⟨0,[],none,0,Fz,rfl,rfl,Fx (World.ownsRow_nil _ _ _ _),Fx trivial,OWK,HBX,HBK⟩
     clear OW HB OWK HBX HBK
     case round =>
      obtain⟨p,cells,xa,xc,hp,rfl,rfl,HO,HA,OW,HX,HB⟩:=hrel
      obtain⟨wp,rfl⟩:∃ wp:World,wp=wr:=⟨_,rfl⟩
      have hcl:cells.length<=4194304:=by
       rw[HA.out.length]
       exact Nat.le_trans (jK _ _) (Nat.le_trans (nz _ _) NT.out)
      by_cases hpt:p<m
      ·obtain⟨t,ht⟩:∃ t,data[p]? = some t:=⟨data[p]'(by rw[HM.out];exact hpt),FD (by rw[HM.out];exact hpt)⟩
       have hrt:=sQ (x:=r.name) ht
       obtain⟨b2,o2,c2,yv,hv2,_,_,hl2,q0,q1,hrows⟩:=(HT.out.keep HB.out).get ht
       rw[HM.out] at hv2
       simp only[Value.slice.injEq,true_and] at hv2
       obtain⟨rfl,rfl⟩:=hv2
       obtain⟨ya,yc,rfl,hyn,hym⟩:=hrows.form
       have hdk2:decide ((p:Int)<0)=false:=by simp
       have hdn2:decide ((m:Int)<=(p:Int))=false:=by simp;omega
       have hnt:t.rows.length<=4194304:=by
        have h1:=nz data (p+1)
        rw[List.take_add_one,ht] at h1
        have h2:=NT.out
        unfold dy at h1 h2
        simp at h1
        omega
       have hrows0:∃ cs2,aH (C0 w) cs2 t.rows/\aj wp (.slice ya t.rows.length yc) 1 (cs2.map fun x=>[x]):=by
        have hg2:=HT.out.get ht
        obtain⟨b3,o3,c3,zv,hv3,_,_,hl3,z0,z1,hrw⟩:=hg2
        rw[HM.out] at hv3
        simp only[Value.slice.injEq,Option.some.injEq,Addr.mk.injEq,and_true,true_and] at hv3
        obtain⟨⟨rfl,rfl⟩,rfl⟩:=hv3
        have hz:=(HB.out.cell (p:=⟨b2,o2+p * 2+1,none⟩) hl3).trans z1
        rw[q1] at hz
        simp only[Option.some.injEq] at hz
        subst hz
        obtain⟨rows3,h3,h4⟩:=hrw
        obtain⟨cs2,rfl,h5⟩:=gP (w:=w) (v:=.slice none 0 0) h4
        exact⟨cs2,h5,h3.keep HB.out⟩
       obtain⟨cs2,hcs2,hrow2⟩:=hrows0
       have hcl2:=hcs2.length
       have bk:Below wp.heap.size wp (wp.alloc (.cells #[.string ⟨t.rel.toArray⟩,.slice ya t.rows.length yc] 47)):=ae Fy _
       have hbx:=af.new wp 47 #[.string ⟨t.rel.toArray⟩,.slice ya t.rows.length yc]
       have mk:=MT.ofBelow (B:=0) (Ts:=[]) bk
       have HY:=Fx hbx
       have HX1:=Fx (HX.out.mt mk (by simp))
       have HO1:=Fx (mk.ownsRow HO.out (by simp))
       have OW1:=Fx (OW.out.mt mk (by simp))
       have HB1':=Fx (HB.out.trans (bk.mono HB.out.size))
       have HR2:=Fx (hrow2.keep bk)
       have HC2:=Fx hcs2
       have HRT:=Fx hrt
       have HL2:=Fx hcl2
       clear bk hbx mk hrows ht hrt hcs2 hrow2 hcl2
       obtain⟨tn,htn'⟩:∃ tn,t.rows.length=tn:=⟨_,rfl⟩
       rw[htn'] at HY HR2 hnt HL2
       have HTN:=Fx htn'
       obtain⟨W2,hW2⟩:∃ W2,wp.alloc (.cells #[.string ⟨t.rel.toArray⟩,.slice ya tn yc] 47)=W2:=⟨_,rfl⟩
       rw[htn'] at HX1 HO1 OW1 HB1'
       rw[hW2] at HX1 HO1 OW1 HB1' HR2
       rw[hW2] at HY
       have HW2:=Fx hW2
       clear hW2 htn' HO OW HX HB
       go_upto_region 17 with fail
       rw[HTN.out,HW2.out]
       clear q0 q1
       have x0:=HX1.out.cell 0
       have xl:=HX1.out.lt
       have y0:=HY.out.cell 0
       have y1:=HY.out.cell 1
       have yl:=HY.out.lt
       simp only[FF] at x0 y0 y1
       by_cases hnm:t.rel=r.name
       ·rw[hnm] at y0
        go_wp2_with (at_builtin;refine dN _ rfl (.tmp 56) (.tmp 58) 45 rfl w.heap.size 59 ir (.slice none 0 0) 1 24 underlying45 hir hr0 hr1 hr2 rfl (by decide) (.slice xa cells.length xc) cells.length cells rfl HO1.out (.slice ya tn yc) rfl (cs2.map fun x=>[x]) HR2.out (fun x hx=>by obtain⟨y,_,rfl⟩:=List.mem_map.1 hx;rfl) (DR HC2.out) ?c1 ?c2 ?c3 ?_)
        case c1=>rw[List.length_map,HL2.out];unfold maxLen;omega
        case c2=>rw[List.length_map,HL2.out];omega
        case c3=>exact HB1'.out.size
        intro v1 w5 hown1 hgrow1
        rw[le] at hown1
        try rw[List.length_map] at hown1
        have m5:MT 0 [59] W2 w5:=(MT.refl W2).grown hgrow1 HO1.out (by simp) (Fz)
        have hb5:Below w.heap.size w w5:=HB1'.out.grown hgrow1 HB1'.out.size (fun q hq=>(World.ownsRow.lt HO1.out q hq).1)
        obtain⟨va,vc,rfl⟩:=aB hown1
        have HO5:Hid (w5.ownsRow w.heap.size 59 1 (.slice va (cells++cs2).length vc) (cells++cs2).length (cells++cs2)):=Fx (by simpa using hown1)
        have OW5:=Fx (OW1.out.mt m5 (by decide))
        have HX5:=Fx (HX1.out.mt m5 (by decide))
        have HB5:=Fx hb5
        clear hown1 hgrow1 m5 hb5 x0 xl y0 y1 yl
        go_wp2_with fail
        go_roundw
        case rel=>exact⟨p+1,cells++cs2,va,vc,by omega,by go_num,by simp,HO5,Fx (by rw[HRT.out,if_pos hnm];exact pz HA.out HC2.out),OW5,HX5,HB5⟩
        case measure=>simp [intOf];omega
       ·have hne:¬ ((⟨t.rel.toArray⟩:ByteArray)=⟨r.name.toArray⟩):=fun e=>hnm (gi.1 e)
        have hne2:(t.rel == r.name)=false:=beq_eq_false_iff_ne.2 hnm
        have hne3:((⟨t.rel.toArray⟩:ByteArray).toList == (⟨r.name.toArray⟩:ByteArray).toList)=false:=by rw[ByteArray.toList_eq,ByteArray.toList_eq];simpa using hnm
        have hne4:((⟨t.rel.toArray⟩:ByteArray).data.toList == (⟨r.name.toArray⟩:ByteArray).data.toList)=false:=by simpa using hnm
        go_wp2_with fail
        go_roundw
        case rel=>exact⟨p+1,cells,xa,xc,by omega,by go_num,rfl,HO1,Fx (by rw[HRT.out,if_neg hnm,List.append_nil];exact HA.out),OW1,HX1,HB1'⟩
        case measure=>simp [intOf];omega
      ·obtain rfl:p=m:=by omega
       have hA:=HA.out
       rw[List.take_of_length_le (by rw[HM.out];exact FA)] at hA
       have har:=fun W (hW:Below wp.heap.size wp W)=>r8 W (.slice xa cells.length xc) (aT r.name data) (cq.ofOwn1 ((MT.ofBelow (B:=0) (Ts:=[]) hW).ownsRow HO.out (by simp)) hA.length.symm (by omega) (hA.mono fun b a hh=>⟨hh.1.keep (HB.out.trans (hW.mono HB.out.size)),hh.2⟩)) (by rw[<-hA.length];omega)
       have hal:=ot (aT r.name data)
       rw[<-hA.length] at hal
       have HAR:=Fx har
       have HAL:=Fx hal
       clear hA har hal HA HO
       go_upto_region 20 with fail
       obtain⟨SS,hSS⟩:∃ SS:World->Prop,SS=fun W'=>af W' bx 57 #[.string ⟨r.name.toArray⟩,.slice ca rn cc]:=⟨_,rfl⟩
       have HSS:SS wp.drew:=by rw[hSS];exact HX.out.drew
       have HSX:=Fx (fun W (q:SS W)=>(by rw[hSS] at q;exact q:af W bx 57 #[.string ⟨r.name.toArray⟩,.slice ca rn cc]))
       have HSM:=Fx (fun W (q:af W bx 57 #[.string ⟨r.name.toArray⟩,.slice ca rn cc])=>(by rw[hSS];exact q:SS W))
       clear hSS
       refine wp_region_held_drew (by kernel_rfl) HSS (fun _=>?_)
       refine Held.take 0 61 (v:=?_) rfl rfl (by kernel_rfl) (by kernel_rfl) (by kernel_rfl) (fun _ _ _ _ h=>h) (by kernel_rfl) HSS ?_ ?_
       rotate_left
       ·intro u hu
        go_simp
        try with_reducible rfl
       try simp only[FG]
       refine Held.take 1 62 (v:=?_) rfl rfl (by kernel_rfl) (by kernel_rfl) (by kernel_rfl) (fun _ _ _ _ h=>h) (by kernel_rfl) HSS ?_ ?_
       rotate_left
       ·intro u hu
        go_simp
        try with_reducible rfl
       try simp only[FG]
       refine Held.take 2 63 (v:=?_) rfl rfl (by kernel_rfl) (by kernel_rfl) (by kernel_rfl) (fun _ _ _ _ h=>h) (by kernel_rfl) HSS ?_ ?_
       rotate_left
       ·intro u hu
        have hq:=HSX.out u hu
        have k0:=hq.cell 0
        simp only[List.getElem?_toArray,List.getElem?_cons_zero] at k0
        have kl:=hq.lt
        clear hq
        go_simp
        try with_reducible rfl
       try simp only[FG]
       refine Held.take 3 64 (v:=?_) rfl rfl (by kernel_rfl) (by kernel_rfl) (by kernel_rfl) (fun _ _ _ _ h=>h) (by kernel_rfl) HSS ?_ ?_
       rotate_left
       ·intro u hu
        go_simp
        try with_reducible rfl
       try simp only[FG]
       refine Held.one 4 rfl (by kernel_rfl) (fun K hK=>?_)
       go_simp
       refine (HAR.out _ (ay Fy)).mono ?_
       rintro e w5 ⟨v5,rfl,hra,hb5⟩
       have b5:Below wp.heap.size wp w5:=(ay (Below.refl wp.heap.size wp)).trans hb5
       have HX5:=Fx (HX.out.below b5 HX.out.lt)
       have OW5:=Fx (OW.out.mt (MT.ofBelow (B:=0) (Ts:=[]) b5) (by simp))
       have HB5:=Fx (HB.out.trans (b5.mono HB.out.size))
       have HSS5:=HSM.out _ HX5.out
       have hbt:=sd w5 r.name v5 (dX (aT r.name data)) hra (fun z hz=>(HWS.out z hz).1) (fun z hz=>(HWS.out z hz).2) (by have:=HAL.out;omega) (HG.out.below HB5.out).g
       have HBT:=Fx hbt
       refine hK.out _ _ HSS5 ?_
       clear hK K HSS hra hb5 b5 hbt HX OW HB HAR
       try simp only[FG]
       refine Held.one 5 rfl (by kernel_rfl) (fun K hK=>?_)
       go_simp
       refine HBT.out.mono ?_
       rintro e w6 ⟨v6,rfl,hown6,hb6⟩
       have HX6:=Fx (HX5.out.below hb6 HX5.out.lt)
       have OW6:=Fx (OW5.out.mt (MT.ofBelow (B:=0) (Ts:=[]) hb6) (by simp))
       have HB6:=Fx (HB5.out.trans (hb6.mono HB5.out.size))
       have HSS6:=HSM.out _ HX6.out
       obtain⟨LN,hLN⟩:∃ LN,jr r.name [] 0 (dX (aT r.name data))=LN:=⟨_,rfl⟩
       have hlen:=kd r.name (dX (aT r.name data)) [] 0
       rw[hLN,if_pos rfl] at hlen
       rw[hLN] at hown6
       have hln:LN.length<=4194304:=by have:=HAL.out;omega
       have hst:=hown6.strs (by omega)
       have HS6:=Fx hst
       have HLN:=Fx hLN
       refine hK.out _ _ HSS6 ?_
       clear hK K HSS5 hown6 hb6 HX5 OW5 HB5 HBT hlen hst hLN
       try simp only[FG]
       refine Held.one 6 rfl (by kernel_rfl) (fun K hK=>?_)
       refine mu rfl (.tmp 61) (.tmp 66) 28 rfl w.heap.size 9 i0 (.string ⟨#[]⟩) 1 16 underlying28 hi0 hz0 hz1 hz2 rfl (by decide) (.slice oa o.length oc) o.length _ rfl OW6.out v6 rfl (LN.map bO) HS6.out (rV LN) (r7 LN) (by rw[List.length_map];unfold maxLen;omega) (by rw[List.length_map];omega) HB6.out.size ?_
       intro v7 w7 hown7 hgrow7
       have m7:MT 0 [9] w6 w7:=(MT.refl w6).grown hgrow7 OW6.out (by simp) (Fz)
       have HX7:=Fx (HX6.out.mt m7 (by decide))
       have HSS7:=HSM.out _ HX7.out
       have HB7:=Fx (HB6.out.grown hgrow7 HB6.out.size (fun q hq=>(World.ownsRow.lt OW6.out q hq).1))
       have ho7:aV w.heap.size w7 v7 (o++LN):=by
        unfold aV
        rw[gj,List.length_map] at hown7
        simpa using hown7
       obtain⟨va,vc,rfl⟩:=ho7.form
       have OW7:=Fx ho7
       refine hK.out _ _ HSS7 ?_
       clear hK K HSS6 hown7 hgrow7 m7 HX6 OW6 HB6 HX7 ho7 HS6
       try simp only[FG]
       refine Held.one 7 rfl (by kernel_rfl) (fun K hK=>?_)
       go_simp
       refine hK.out _ _ HSS7 ?_
       clear hK K HSS7 HSX HSM
       try simp only[FG]
       refine wpAnyH_done (by kernel_rfl) ?_ _
       go_wp2_with fail
       go_roundw
       case rel=>exact⟨j+1,o++LN,va,vc,by omega,by go_num,by simp,OW7,HB7,Fx (by rw[HST.out,HLN.out,HE.out,List.append_assoc]),by rw[List.length_append];omega⟩
       case measure=>simp [intOf];omega
    ·obtain rfl:j=k:=by omega
     have hE:=HE.out
     rw[List.take_of_length_le (by rw[HN.out];exact FA)] at hE
     have HE2:=Fx hE
     obtain⟨o2,ho2⟩:∃ o2,o=o2:=⟨_,rfl⟩
     have hol2:o2.length<=4398047559680:=by rw[<-ho2];omega
     rw[ho2] at HE2
     have HO2:=Fx ho2
     clear hE HE
     go_wp2_with fail
     go_loopw [9,71] (fun ov iv wr=>∃ (p:Nat) (o:List (List UInt8)) (oa:Option Addr) (oc:Nat),p<=qn/\iv=.int .i64 p/\ov=.slice oa o.length oc/\Hid (aV w.heap.size wr (.slice oa o.length oc) o)/\Hid (Below w.heap.size w wr)/\Hid (o=o2++(qs.take p).map bL)/\o.length<=o2.length+p) (fun _ i _=>qn - (intOf i).toNat)
     case atStart=>exact⟨0,o,oa,oc,Fz,rfl,rfl,OW,HB,Fx (by rw[HO2.out];simp),by rw[HO2.out];exact FA⟩
     clear OW HB HO2 ho2 hol
     case round =>
      obtain⟨p,o,oa,oc,hp,rfl,rfl,OW,HB,HE,hol⟩:=hrel
      obtain⟨wo,rfl⟩:∃ wo:World,wo=wr:=⟨_,rfl⟩
      by_cases hlt:p<qn
      ·obtain⟨r,hr⟩:∃ r,qs[p]? = some r:=⟨qs[p]'(by rw[HK.out];exact hlt),FD (by rw[HK.out];exact hlt)⟩
       have hst:(qs.take (p+1)).map bL=(qs.take p).map bL++[bL r]:=by rw[List.take_add_one,hr];simp
       obtain⟨b1,o1,c1,hv,av,hv1,_,_,hl1,q0,q1,q2,hh,ha⟩:=(HQ.out.keep HB.out).get hr
       rw[HK.out] at hv1
       simp only[Value.slice.injEq,true_and] at hv1
       obtain⟨rfl,rfl⟩:=hv1
       have hbr:=BQ.out r (FC hr)
       obtain⟨ha1,hc1,rfl,_,_⟩:=hh.form
       obtain⟨aa1,ac1,rfl,_,_⟩:=ha.form
       have hdk:decide ((p:Int)<0)=false:=by simp
       have hdn:decide ((qn:Int)<=(p:Int))=false:=by simp;omega
       have bk:Below wo.heap.size wo (wo.alloc (.cells #[.string ⟨r.name.toArray⟩,.slice ha1 r.head.length hc1,.slice aa1 r.atoms.length ac1] 50)):=ae Fy _
       have hbx:=af.new wo 50 #[.string ⟨r.name.toArray⟩,.slice ha1 r.head.length hc1,.slice aa1 r.atoms.length ac1]
       have htx:=tz _ r _ _ (aj.keep hh bk) (ha.keep bk) hbr (kW qs [] (fk HE0.out).2.2 r (FC hr)) (HG.out.below (HB.out.trans (bk.mono HB.out.size)))
       have HTX:=Fx htx
       have HBX:=Fx hbx
       have HBK:=Fx (HB.out.trans (bk.mono HB.out.size))
       have OWK:=Fx (OW.out.mt (MT.ofBelow (B:=0) (Ts:=[]) bk) (by simp))
       have HST:=Fx hst
       clear bk hbx htx hh ha hr hst hbr
       generalize r.head.length=n1 at *
       generalize r.atoms.length=n2 at *
       obtain⟨W1,hW1⟩:∃ W1,wo.alloc (.cells #[.string ⟨r.name.toArray⟩,.slice ha1 n1 hc1,.slice aa1 n2 ac1] 50)=W1:=⟨_,rfl⟩
       rw[hW1] at HTX HBX HBK OWK
       have HW1:=Fx hW1
       clear hW1
       have x0:=HBX.out.cell 0
       have x1:=HBX.out.cell 1
       have x2:=HBX.out.cell 2
       have xl:=HBX.out.lt
       simp only[FF] at x0 x1 x2
       go_upto_region 25 with fail
       rw[HW1.out]
       clear q0 q1 q2
       go_wp2_with fail
       refine HTX.out.mono ?_
       rintro e w3 ⟨rfl,hb3⟩
       have OW3:=Fx (OWK.out.mt (MT.ofBelow (B:=0) (Ts:=[]) hb3) (by simp))
       have HB3:=Fx (HBK.out.trans (hb3.mono HBK.out.size))
       clear hb3 x0 x1 x2 xl
       go_wp2_with (at_builtin;refine wpList_append_lies _ rfl (.tmp 75) (.tmp 79) 28 rfl w.heap.size 9 i0 (.string ⟨#[]⟩) 1 16 underlying28 hi0 hz0 hz1 hz2 rfl (by decide) (.slice oa o.length oc) o.length _ rfl (aV.alloc OW3.out _) ⟨_,0,none⟩ 1 1 [.string ⟨(bL r).toArray⟩] rfl rfl (World.news_of_block (af.new _ _ _)) (by simp [Value.oneCell']) (by decide) ?c3 ?c5 ?c4 _ rfl ?_)
       case c3=>unfold maxLen;omega
       case c5=>omega
       case c4=>have:=HB3.out.size;simp;omega
       intro g cap1 w4 hown2 hgrow2 hat2 hlt2
       have HB4:=Fx ((ae HB3.out _).grown hgrow2 (by have:=HB3.out.size;simp;omega) (fun q hq=>(World.ownsRow.lt OW3.out q hq).1))
       have OW4:Hid (aV w.heap.size w4 (.slice (some ⟨g,0,none⟩) (o++[bL r]).length cap1) (o++[bL r])):=Fx (by
        unfold aV
        simpa using hown2)
       clear hown2 hgrow2 hat2 hlt2
       go_wp2_with fail
       go_roundw
       case rel=>exact⟨p+1,o++[bL r],some ⟨g,0,none⟩,cap1,by omega,by go_num,by simp,OW4,HB4,Fx (by rw[HST.out,HE.out,List.append_assoc]),by simp;omega⟩
       case measure=>simp [intOf];omega
      ·obtain rfl:p=qn:=by omega
       have hE:=HE.out
       rw[List.take_of_length_le (by rw[HK.out];exact FA),HE2.out,<-HLP.out] at hE
       have HEE:=Fx hE
       clear hE HE
       go_wp2_with fail
       go_ret2
       refine⟨_,rfl,?_,HB.out⟩
       have h9:=OW.out
       have hE:=HEE.out
       first
        | (rw[<-hE];simpa using h9)
        | (rw[if_pos rfl,<-hE];simpa using h9)
