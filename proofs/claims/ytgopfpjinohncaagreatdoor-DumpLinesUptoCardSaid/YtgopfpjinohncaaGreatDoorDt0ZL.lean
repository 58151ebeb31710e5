/- Small facts of the dump's laws; two lists of texts compared by the law's code. osierref26.RowsOf, walked. -/
import Derived.Test.YtgopfpjinohncaaGreatDoorDcpZL
import Derived.Test.YtgopfpjinohncaaGreatDoorDc9ZL
import Derived.Test.YtgopfpjinohncaaGreatDoorGcL
import Derived.Test.YtgopfpjinohncaaGreatDoorAr1ZL
import Derived.Test.YtgopfpjinohncaaGreatDoorApZL
namespace Go.Proofs.YtgopfpjinohncaaGreatDoor
open Go.RowKit
set_option linter.unusedVariables false
theorem nRows_mem:∀ {d:List Tbl} {t:Tbl},t∈d->t.rows.length<=nRows d
 | u::d,t,h=>by
   unfold nRows
   rw[List.map_cons,List.sum_cons]
   rcases List.mem_cons.1 h with rfl | h
   ·omega
   ·have:=nRows_mem h
    unfold nRows at this
    omega
theorem linesP_len (rels:List Rln) (data:List Tbl) (qs:List Qry):(linesP rels data qs).length<=rels.length+rels.length * nRows data+qs.length:=by
 have h:(rels.flatMap fun r=>goB r.name [] 0 (arrP (rowsIn r.name data))).length<=rels.length * nRows data:=by
  induction rels with
  | nil=>simp
  | cons r rs ih =>
    rw[List.flatMap_cons,List.length_append,List.length_cons,Nat.succ_mul]
    have h1:=goB_len r.name (arrP (rowsIn r.name data)) [] 0
    have h2:=arrP_len (rowsIn r.name data)
    have h3:=rowsIn_len r.name data
    simp only[if_true] at h1
    omega
 unfold linesP
 simp only[List.length_append,List.length_map]
 omega
theorem RelsAt.colsS {w:World} {v:Value} {l:List Rln} (h:RelsAt w v l):∀ c∈l,c.cols.length<=5864062014634:=by
 intro c hc
 obtain⟨i,hi⟩:=List.getElem?_of_mem hc
 obtain⟨_,_,_,_,_,_,_,_,_,_,_,h9⟩:=h.get hi
 exact h9
theorem QrysAt.sml {w:World} {v:Value} {l:List Qry} (h:QrysAt w v l) (hb:∀ q∈l,QryB q):QrsS l:=by
 intro q hq
 obtain⟨i,hi⟩:=List.getElem?_of_mem hq
 obtain⟨_,_,_,_,_,_,_,_,_,_,_,_,hh,ha⟩:=h.get hi
 exact⟨by simpa using hh.1,(hb q hq).natoms,ha.small⟩
set_option maxHeartbeats 2000000 in
theorem sameL_any (w:World) (va vb:Value) (a b:List (List UInt8)) (ha:StrsAt w va a) (hb:StrsAt w vb b) :
 Calls Tryz.prog 15 #[va,vb] w fun e w'=>e=.returned (.bool (decide (a=b)))/\Below w.heap.size w w':=by
 have H:=Lib.hid (sameTexts_any w va vb a b ha hb)
 clear ha hb
 generalize decide (a=b)=d at *
 go_enter Tryz.func15,Tryz.ntmps15
 go_wp2_with fail
 refine H.out.mono ?_
 rintro e w1 ⟨rfl,hb⟩
 have HB:=Lib.hid hb
 clear hb
 go_wp2_with fail
 go_ret
 exact⟨rfl,HB.out⟩
set_option maxHeartbeats 8000000 in
set_option maxRecDepth 100000 in
theorem rowsOf_any (w:World) (x:List UInt8) (tv:Value) (data:List Tbl) (hT:TblsAt w tv data) (nT:nRows data<=4194304) (ht:∀ t∈data,∀ r∈t.rows,∀ u∈r,u.t.length<=281474976710656) :
 Calls Tryz.prog 36 #[.string ⟨x.toArray⟩,tv] w fun e w'=>∃ v',e=.returned v'/\RwsO w.heap.size w' v' (arrP (rowsIn x data))/\Below w.heap.size w w':=by
 obtain⟨ir,hir,hr0,hr1,hr2⟩:=info_parts Tryz.infoRow
 obtain⟨ta,tc,rfl,htn,htm⟩:=hT.form
 unfold maxLen at htm
 have HT:=Lib.hid hT
 have NT:=Lib.hid nT
 have HTL:=Lib.hid ht
 clear hT nT ht
 generalize hM:data.length=m at *
 have HM:=Lib.hid hM
 clear hM
 go_enter Tryz.func36,Tryz.ntmps36
 go_wp2_with fail
 go_loopw [5,6] (fun rv iv wr=>∃ (p:Nat) (cells:List Value) (xa:Option Addr) (xc:Nat),p<=m/\iv=.int .i64 p/\rv=.slice xa cells.length xc/\Hid (wr.ownsRow w.heap.size 59 1 (.slice xa cells.length xc) cells.length cells)/\Hid (All2 (RoC w) cells (rowsIn x (data.take p)))/\Hid (Below w.heap.size w wr)) (fun _ iv _=>m - (intOf iv).toNat)
 case atStart=>exact⟨0,[],none,0,Nat.zero_le _,rfl,rfl,Lib.hid (World.ownsRow_nil _ _ _ _),Lib.hid trivial,Lib.hid (Below.refl _ _)⟩
 case round =>
  obtain⟨p,cells,xa,xc,hp,rfl,rfl,HO,HA,HB⟩:=hrel
  obtain⟨wp,rfl⟩:∃ wp:World,wp=wr:=⟨_,rfl⟩
  have hcl:cells.length<=4194304:=by
   rw[HA.out.length]
   exact Nat.le_trans (rowsIn_len _ _) (Nat.le_trans (nRows_take _ _) NT.out)
  by_cases hpt:p<m
  ·obtain⟨t,ht⟩:∃ t,data[p]? = some t:=⟨data[p]'(by rw[HM.out];exact hpt),List.getElem?_eq_getElem (by rw[HM.out];exact hpt)⟩
   have hrt:=rowsIn_take (x:=x) ht
   obtain⟨b2,o2,c2,yv,hv2,_,_,hl2,q0,q1,hrows⟩:=(HT.out.keep HB.out).get ht
   rw[HM.out] at hv2
   simp only[Value.slice.injEq,true_and] at hv2
   obtain⟨rfl,rfl⟩:=hv2
   obtain⟨ya,yc,rfl,hyn,hym⟩:=hrows.form
   have hdk2:decide ((p:Int)<0)=false:=by simp
   have hdn2:decide ((m:Int)<=(p:Int))=false:=by simp;omega
   have hdl2:decide ((p:Int)<(m:Int))=true:=by simp;omega
   have hnt:t.rows.length<=4194304:=by
    have h1:=nRows_take data (p+1)
    rw[List.take_add_one,ht] at h1
    have h2:=NT.out
    unfold nRows at h1 h2
    simp at h1
    omega
   have hrows0:∃ cs2,All2 (RoC w) cs2 t.rows/\RowAt wp (.slice ya t.rows.length yc) 1 (cs2.map fun x=>[x]):=by
    obtain⟨b3,o3,c3,zv,hv3,_,_,hl3,z0,z1,hrw⟩:=HT.out.get ht
    rw[HM.out] at hv3
    simp only[Value.slice.injEq,Option.some.injEq,Addr.mk.injEq,and_true,true_and] at hv3
    obtain⟨⟨rfl,rfl⟩,rfl⟩:=hv3
    have hz:=(HB.out.cell (p:=⟨b2,o2+p * 2+1,none⟩) hl3).trans z1
    rw[q1] at hz
    simp only[Option.some.injEq] at hz
    subst hz
    obtain⟨rows3,h3,h4⟩:=hrw
    obtain⟨cs2,rfl,h5⟩:=rows_of_all2 (w:=w) (v:=.slice none 0 0) h4
    exact⟨cs2,h5,h3.keep HB.out⟩
   obtain⟨cs2,hcs2,hrow2⟩:=hrows0
   have hcl2:=hcs2.length
   have HR2:=Lib.hid hrow2
   have HC2:=Lib.hid hcs2
   have HRT:=Lib.hid hrt
   have HL2:=Lib.hid hcl2
   have hzp:=HB.out.size
   clear hrows ht hrt hcs2 hrow2 hcl2
   generalize t.rows.length=tn at *
   by_cases hnm:t.rel=x
   ·rw[hnm] at q0
    go_wp2_with (at_builtin;refine wpList_append_row _ rfl (.tmp 20) (.tmp 25) 45 rfl w.heap.size 59 ir (.slice none 0 0) 1 24 Tryz.underlying45 hir hr0 hr1 hr2 rfl (by decide) (.slice xa cells.length xc) cells.length cells rfl HO.out (.slice ya tn yc) rfl (cs2.map fun x=>[x]) HR2.out (fun x hx=>by obtain⟨y,_,rfl⟩:=List.mem_map.1 hx;rfl) (ro_one HC2.out) ?c1 ?c2 ?c3 ?_)
    case c1=>rw[List.length_map,HL2.out];unfold maxLen;omega
    case c2=>rw[List.length_map,HL2.out];omega
    case c3=>exact hzp
    intro v1 w5 hown1 hgrow1
    rw[ones_flat] at hown1
    try rw[List.length_map] at hown1
    have hb5:Below w.heap.size w w5:=HB.out.grown hgrow1 hzp (fun q hq=>(World.ownsRow.lt HO.out q hq).1)
    obtain⟨va,vc,rfl⟩:=own_sl hown1
    have HO5:Hid (w5.ownsRow w.heap.size 59 1 (.slice va (cells++cs2).length vc) (cells++cs2).length (cells++cs2)):=Lib.hid (by simpa using hown1)
    have HB5:=Lib.hid hb5
    clear hown1 hgrow1 hb5 q0 q1 hl2
    go_wp2_with fail
    go_roundw
    case rel=>exact⟨p+1,cells++cs2,va,vc,by omega,by go_num,by simp,HO5,Lib.hid (by rw[HRT.out,if_pos hnm];exact all2_app2 HA.out HC2.out),HB5⟩
    case measure=>simp [intOf];omega
   ·have hne:¬ ((⟨t.rel.toArray⟩:ByteArray)=⟨x.toArray⟩):=fun e=>hnm (bytes_eq.1 e)
    have hne2:(t.rel == x)=false:=beq_eq_false_iff_ne.2 hnm
    have hne3:((⟨t.rel.toArray⟩:ByteArray).toList == (⟨x.toArray⟩:ByteArray).toList)=false:=by rw[ByteArray.toList_eq,ByteArray.toList_eq];simpa using hnm
    have hne4:((⟨t.rel.toArray⟩:ByteArray).data.toList == (⟨x.toArray⟩:ByteArray).data.toList)=false:=by simpa using hnm
    go_wp2_with fail
    go_roundw
    case rel=>exact⟨p+1,cells,xa,xc,by omega,by go_num,rfl,HO,Lib.hid (by rw[HRT.out,if_neg hnm,List.append_nil];exact HA.out),HB⟩
    case measure=>simp [intOf];omega
  ·obtain rfl:p=m:=by omega
   have hA:=HA.out
   rw[List.take_of_length_le (by rw[HM.out];exact Nat.le_refl _)] at hA
   have har:=arrD_any _ wp (.slice xa cells.length xc) (rowsIn x data) (Nat.le_refl _) (RowsAt.ofOwn1 HO.out hA.length.symm (by omega) (hA.mono fun b a hh=>⟨hh.1.keep HB.out,hh.2⟩)) (by rw[<-hA.length];omega) (fun r hr=>by
    obtain⟨t,h1,_,h2⟩:=mem_rowsIn.1 hr
    exact HTL.out t h1 r h2)
   have HAR:=Lib.hid har
   have hdl3:decide ((p:Int)<(p:Int))=false:=by simp
   clear hA har
   go_wp2_with fail
   refine HAR.out.mono ?_
   rintro e w5 ⟨v5,rfl,hr5,hb5⟩
   have HR5:=Lib.hid (hr5.low HB.out.size)
   have HB5:=Lib.hid (HB.out.trans (hb5.mono HB.out.size))
   clear hr5 hb5 HAR
   go_wp2_with fail
   go_ret
   exact⟨_,rfl,HR5.out,HB5.out⟩
end Go.Proofs.YtgopfpjinohncaaGreatDoor
