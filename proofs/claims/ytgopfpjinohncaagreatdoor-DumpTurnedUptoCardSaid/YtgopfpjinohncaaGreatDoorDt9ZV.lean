/- DumpTurned, walked (printed by mkdt9.py). -/
import Derived.Test.YtgopfpjinohncaaGreatDoorCqoZV
import Derived.Test.YtgopfpjinohncaaGreatDoorStgZV
import Derived.Test.YtgopfpjinohncaaGreatDoorGnV
namespace Go.Proofs.YtgopfpjinohncaaGreatDoor
open Go.RowKit
set_option linter.unusedVariables false
def twD (l:List (List Vl)) (j:Nat):List (List Vl):=(l.drop j).reverse.flatMap fun r=>[r,r]
theorem twD_step {l:List (List Vl)} {j:Nat} {r:List Vl} (h:l[j]? = some r):twD l j=twD l (j+1)++[r,r]:=by
 obtain⟨hl,he⟩:=List.getElem?_eq_some_iff.1 h
 unfold twD
 rw[List.drop_eq_getElem_cons hl,he,List.reverse_cons,List.flatMap_append]
 rfl
theorem twD_end (l:List (List Vl)):twD l l.length=[]:=by simp [twD]
theorem twD_len (l:List (List Vl)) (j:Nat):(twD l j).length<=2 * l.length:=by
 unfold twD
 rw[List.length_flatMap]
 have:((l.drop j).reverse.map fun r=>([r,r]:List (List Vl)).length).sum=2 * (l.drop j).length:=by
  generalize l.drop j=m
  induction m with
  | nil=>rfl
  | cons a m ih =>
    simp at *
    omega
 rw[this,List.length_drop]
 omega
theorem turnT_step {d:List Tbl} {i:Nat} {t:Tbl} (h:d[i]? = some t):turnT (d.drop i)=turnT (d.drop (i+1))++[⟨t.rel,twD t.rows 0⟩,⟨t.rel,[]⟩]:=by
 obtain⟨hl,he⟩:=List.getElem?_eq_some_iff.1 h
 rw[List.drop_eq_getElem_cons hl,he]
 rfl
theorem turnT_len:∀ d:List Tbl,(turnT d).length=2 * d.length
 | []=>rfl
 | t::d=>by simp [turnT,turnT_len d];omega
theorem turnT_rows:∀ d:List Tbl,∀ t∈turnT d,∃ u∈d,∀ z∈t.rows,z∈u.rows
 | [],t,h=>by simp [turnT] at h
 | u::d,t,h=>by
   unfold turnT at h
   rcases List.mem_append.1 h with h | h
   ·obtain⟨u',h1,h2⟩:=turnT_rows d t h
    exact⟨u',List.mem_cons_of_mem _ h1,h2⟩
   ·rcases List.mem_cons.1 h with rfl | h
    ·exact⟨u,List.mem_cons_self,fun z hz=>(mem_twice _).1 hz⟩
    ·obtain rfl:=List.mem_singleton.1 h
     exact⟨u,List.mem_cons_self,fun z hz=>by simp at hz⟩
theorem turnT_n:∀ d:List Tbl,nRows (turnT d)<=2 * nRows d
 | []=>by simp [turnT,nRows]
 | u::d=>by
   have h:=turnT_n d
   have h2:=twD_len u.rows 0
   unfold twD at h2
   rw[List.drop_zero] at h2
   unfold nRows at *
   simp only[turnT,List.map_append,List.sum_append,List.map_cons,List.map_nil,List.sum_cons,List.sum_nil,List.length_nil]
   omega
theorem nRows_mem:∀ {d:List Tbl} {t:Tbl},t∈d->t.rows.length<=nRows d
 | u::d,t,h=>by
   unfold nRows
   rw[List.map_cons,List.sum_cons]
   rcases List.mem_cons.1 h with rfl | h
   ·omega
   ·have:=nRows_mem h
    unfold nRows at this
    omega
theorem linesP_len (rels:List Rln) (data:List Tbl) (qs:List Qry):(linesP rels data qs).length<=rels.length+rels.length * nRows data+qs.length:=by
 have h:(rels.flatMap fun r=>goB r.name [] 0 (arrP (rowsIn r.name data))).length<=rels.length * nRows data:=by
  induction rels with
  | nil=>simp
  | cons r rs ih =>
    rw[List.flatMap_cons,List.length_append,List.length_cons,Nat.succ_mul]
    have h1:=goB_len r.name (arrP (rowsIn r.name data)) [] 0
    have h2:=arrP_len (rowsIn r.name data)
    have h3:=rowsIn_len r.name data
    simp only[if_true] at h1
    omega
 unfold linesP
 simp only[List.length_append,List.length_map]
 omega
theorem RwsO.store {B g:Nat} {t:TypeId} {cs:Array Value} {w w':World} {v:Value} {l:List (List Vl)} (h:RwsO B w v l) (hb:Blk w g t cs) (h1:t≠59) (h2:t≠111) (hm:Mod (fun k=>k=g) w w'):RwsO B w' v l :=
 h.mt (MT.ofMod (Ts:=[t]) hm hb (by simp) (Nat.zero_le _)) (by simpa using fun e=>h1 e.symm) (by simpa using fun e=>h2 e.symm)
theorem TblO.store {B g:Nat} {t:TypeId} {cs:Array Value} {w w':World} {row:List Value} {u:Tbl} (h:TblO B w row u) (hb:Blk w g t cs) (h1:t≠59) (h2:t≠111) (hm:Mod (fun k=>k=g) w w'):TblO B w' row u:=by
 obtain⟨y,rfl,h3⟩:=h
 exact⟨y,rfl,h3.store hb h1 h2 hm⟩
theorem RelsAt.colsS {w:World} {v:Value} {l:List Rln} (h:RelsAt w v l):∀ c∈l,c.cols.length<=5864062014634:=by
 intro c hc
 obtain⟨i,hi⟩:=List.getElem?_of_mem hc
 obtain⟨_,_,_,_,_,_,_,_,_,_,_,h9⟩:=h.get hi
 exact h9
theorem QrysAt.sml {w:World} {v:Value} {l:List Qry} (h:QrysAt w v l) (hb:∀ q∈l,QryB q):QrsS l:=by
 intro q hq
 obtain⟨i,hi⟩:=List.getElem?_of_mem hq
 obtain⟨_,_,_,_,_,_,_,_,_,_,_,_,hh,ha⟩:=h.get hi
 exact⟨by simpa using hh.1,(hb q hq).natoms,ha.small⟩
set_option maxHeartbeats 2000000 in
theorem sameL_any (w:World) (va vb:Value) (a b:List (List UInt8)) (ha:StrsAt w va a) (hb:StrsAt w vb b) :
 Calls Tryz.prog 15 #[va,vb] w fun e w'=>e=.returned (.bool (decide (a=b)))/\Below w.heap.size w w':=by
 have H:=Lib.hid (sameTexts_any w va vb a b ha hb)
 clear ha hb
 generalize decide (a=b)=d at *
 go_enter Tryz.func15,Tryz.ntmps15
 go_wp2_with fail
 refine H.out.mono ?_
 rintro e w1 ⟨rfl,hb⟩
 have HB:=Lib.hid hb
 clear hb
 go_wp2_with fail
 go_ret
 exact⟨rfl,HB.out⟩
set_option maxHeartbeats 16000000 in
set_option maxRecDepth 100000 in
theorem turned_law (w:World) (rv tv qv:Value) (rels:List Rln) (data:List Tbl) (qs:List Qry) (hR:RelsAt w rv rels) (hT:TblsAt w tv data) (hQ:QrysAt w qv qs) (bR:RlnB rels) (bT:∀ t∈data,RowsB t.rows) (bQ:∀ q∈qs,QryB q)
 (nR:rels.length<=1048576) (nD:data.length<=1048576) (nT:nRows data<=1048576) (nQ:qs.length<=1048576) (hg:GlobW w) :
 Calls Tryz.prog 7 #[rv,tv,qv] w fun e w'=>e=.returned (.bool true)/\Below w.heap.size w w':=by
 obtain⟨it,hit,ht0,ht1,ht2⟩:=info_parts Tryz.infoTbc
 obtain⟨ir,hir,hr0,hr1,hr2⟩:=info_parts Tryz.infoRow
 have HCQ:=Lib.hid (hQ.sml bQ)
 have hc1:=copyRels_any w rv rels hR (by omega)
 have HRC:=Lib.hid hR.colsS
 obtain⟨ta,tc,rfl,htn,htm⟩:=hT.form
 obtain⟨ra,rc,rfl,hrn,hrm⟩:=hR.form
 obtain⟨qa,qc,rfl,hqn,hqm⟩:=hQ.form
 have HR:=Lib.hid hR
 have HT:=Lib.hid hT
 have HQ:=Lib.hid hQ
 have BR:=Lib.hid bR
 have BT:=Lib.hid bT
 have BQ:=Lib.hid bQ
 have HG:=Lib.hid hg
 have HC1:=Lib.hid hc1
 clear hR hT hQ bR bT bQ hg hc1 hrn hrm hqn hqm
 unfold maxLen at htm
 obtain⟨rn,hrn⟩:∃ rn,rels.length=rn:=⟨_,rfl⟩
 obtain⟨dn,hdn⟩:∃ dn,data.length=dn:=⟨_,rfl⟩
 obtain⟨qn,hqn⟩:∃ qn,qs.length=qn:=⟨_,rfl⟩
 have HRN:=Lib.hid hrn
 have HDN:=Lib.hid hdn
 have HQN:=Lib.hid hqn
 rw[hrn] at HC1 HR nR ⊢
 rw[hdn] at HT nD htn ⊢
 rw[hqn] at HQ nQ ⊢
 clear hrn hdn hqn
 go_enter Tryz.func7,Tryz.ntmps7
 go_wp2_with fail
 refine HC1.out.mono ?_
 rintro e w1 ⟨v1,rfl,hrel,hb1⟩
 have hr1:=RelsOwn.at hrel (by rw[HRN.out];omega) HRC.out
 have HR1:=Lib.hid hr1
 have HB1:=Lib.hid hb1
 have HC2:=Lib.hid (copyTbls_any w1 _ data (HT.out.keep hb1) (by rw[HDN.out];omega) (fun t ht=>by have:=nRows_mem ht;omega))
 clear hrel hr1 hb1
 go_wp2_with fail
 refine HC2.out.mono ?_
 rintro e w2 ⟨v2,rfl,htb,hb2⟩
 have HT2:=Lib.hid (htb.at_ (by rw[HDN.out];omega) (fun t ht=>by have:=nRows_mem ht;omega))
 have HB2:=Lib.hid (bt2 HB1.out hb2)
 have HR2:=Lib.hid (HR1.out.keep hb2)
 have HC3:=Lib.hid (copyQrys_any w2 _ qs (HQ.out.keep (bt2 HB1.out hb2)) (by rw[HQN.out];omega) HCQ.out)
 clear htb hb2 HR1 HB1 HC2
 go_wp2_with fail
 refine HC3.out.mono ?_
 rintro e w3 ⟨v3,rfl,hqr,hb3⟩
 have hb30:=bt2 HB2.out hb3
 have HD3:=Lib.hid (dlines_any w3 v1 v2 v3 rels data qs (HR2.out.keep hb3) (HT2.out.keep hb3) (hqr.at_ (by rw[HQN.out];omega) HCQ.out) BR.out BT.out BQ.out (by rw[HRN.out];exact nR) (by omega) (by rw[HQN.out];exact nQ) (HG.out.below hb30))
 have HB3:=Lib.hid hb30
 clear hqr hb3 hb30 HR2 HT2 HB2 HC3
 obtain⟨E,hE⟩:∃ E,chkD rels data qs=E:=⟨_,rfl⟩
 obtain⟨LS,hLS⟩:∃ LS,(if chkD rels data qs=0 then linesP rels data qs else [])=LS:=⟨_,rfl⟩
 rw[hLS,hE] at HD3
 have HLL:Hid (LS.length<=8796093022208):=Lib.hid (by
  have h1:=linesP_len rels data qs
  have h2:=HRN.out
  have h3:=HQN.out
  have h4:rels.length * nRows data<=1048576 * 1048576:=Nat.mul_le_mul (by omega) nT
  rw[<-hLS]
  by_cases h:chkD rels data qs=0
  ·rw[if_pos h];omega
  ·rw[if_neg h];exact Nat.zero_le _)
 have HE:=Lib.hid hE
 have HLS:=Lib.hid hLS
 clear hE hLS
 go_wp2_with fail
 refine HD3.out.mono ?_
 rintro e w4 ⟨lv,rfl,hlv,hb4⟩
 have HL4:=Lib.hid hlv
 have HB4:=Lib.hid (bt2 HB3.out hb4)
 clear hlv hb4 HB3 HD3
 go_wp2_with fail
 go_loopw [10,9] (fun i tu wr=>∃ (k:Nat) (s:Int) (tua:Option Addr) (tun tuc:Nat) (rws:List (List Value)),k<=dn/\i=.int .i64 s/\s=(k:Int) - 1/\tu=.slice tua tun tuc/\Hid (tun=(turnT (data.drop k)).length)/\Hid (wr.ownsRow w4.heap.size 47 2 (.slice tua tun tuc) tun rws.flatten)/\Hid (All2 (TblO w4.heap.size wr) rws (turnT (data.drop k)))/\Hid (Below w4.heap.size w4 wr)) (fun i _ _=>(intOf i+1).toNat)
 case atStart =>
  refine⟨dn,_,none,0,0,[],Nat.le_refl _,rfl,rfl,rfl,Lib.hid ?_,Lib.hid (World.ownsRow_nil _ _ _ _),Lib.hid ?_,Lib.hid (Below.refl _ _)⟩
  ·rw[<-HDN.out,List.drop_length];rfl
  ·rw[<-HDN.out,List.drop_length];trivial
 case round =>
  obtain⟨k,s,tua,tun,tuc,rws,hk,rfl,hs,rfl,TN,OW,AL,BW⟩:=hrel
  obtain⟨wo,rfl⟩:∃ wo:World,wo=wr:=⟨_,rfl⟩
  cases k with
  | zero =>
    obtain rfl:s = -1:=by omega
    clear hs
    have hbw:=bt2 HB4.out BW.out
    have htn0:=TN.out
    have hal0:=AL.out
    rw[List.drop_zero] at htn0 hal0
    have htb:TbsO w4.heap.size wo (.slice tua tun tuc) (turnT data):=⟨rws,by rw[<-htn0];exact OW.out,hal0⟩
    have hnn:=turnT_n data
    have HTT:=Lib.hid (htb.at_ (by rw[turnT_len,HDN.out];omega) (fun t ht=>by have:=nRows_mem ht;omega))
    have HL5:=Lib.hid (show OwnS w3.heap.size wo lv LS from (MT.ofBelow (B:=0) (Ts:=[]) BW.out).ownsRow HL4.out (by simp))
    have HBW:=Lib.hid hbw
    have HC5:=Lib.hid (copyRels_any wo _ rels (HR.out.keep hbw) (by rw[HRN.out];omega))
    clear hbw htn0 hal0 htb
    go_wp2_with fail
    refine HC5.out.mono ?_
    rintro e w5 ⟨v5,rfl,hrel,hb5⟩
    have HR5:=Lib.hid (RelsOwn.at hrel (by rw[HRN.out];omega) HRC.out)
    have HB5:=Lib.hid hb5
    have HC6:=Lib.hid (copyQrys_any w5 _ qs (HQ.out.keep (bt2 HBW.out hb5)) (by rw[HQN.out];omega) HCQ.out)
    clear hrel hb5 HC5
    go_wp2_with fail
    refine HC6.out.mono ?_
    rintro e w6 ⟨v6,rfl,hqr,hb6⟩
    have hb56:=bt2 HB5.out hb6
    have hd6:=dlines_any w6 v5 _ v6 rels (turnT data) qs (HR5.out.keep hb6) (HTT.out.keep hb56) (hqr.at_ (by rw[HQN.out];omega) HCQ.out) BR.out (fun t ht=>by
     obtain⟨u,hu,hz⟩:=turnT_rows data t ht
     exact fun r hr=>BT.out u hu r (hz r hr)) BQ.out (by rw[HRN.out];exact nR) (by omega) (by rw[HQN.out];exact nQ) (HG.out.below (bt2 HBW.out hb56))
    have HB6:=Lib.hid hb56
    obtain⟨E2,hE2⟩:∃ E2,chkD rels (turnT data) qs=E2:=⟨_,rfl⟩
    have hee:E2=0 ↔ E=0:=by rw[<-hE2,<-HE.out];exact chkD_turn rels data qs
    have hls:(if chkD rels (turnT data) qs=0 then linesP rels (turnT data) qs else [])=LS:=by
     rw[<-HLS.out,linesP_turn]
     by_cases h:chkD rels data qs=0
     ·rw[if_pos h,if_pos ((chkD_turn rels data qs).2 h)]
     ·rw[if_neg h,if_neg (fun q=>h ((chkD_turn rels data qs).1 q))]
    rw[hls,hE2] at hd6
    have HD6:=Lib.hid hd6
    have HEE:=Lib.hid hee
    clear hqr hb6 hb56 hd6 hE2 hls hee HC6
    go_wp2_with fail
    refine HD6.out.mono ?_
    rintro e w7 ⟨mv,rfl,hmv,hb7⟩
    have hb67:=bt2 HB6.out hb7
    have hls1:LS.length<=8796093022208:=HLL.out
    have hsm:=sameL_any w7 lv mv LS LS ((OwnS.strs HL5.out hls1).keep hb67) (OwnS.strs hmv hls1)
    rw[decide_eq_true (rfl:LS=LS)] at hsm
    have HSM:=Lib.hid hsm
    have HB7:=Lib.hid (bt2 HBW.out hb67)
    clear hmv hb7 hb67 hls1 HD6 hsm
    by_cases he:E=0
    ·have he2:=HEE.out.2 he
     subst he he2
     go_wp2_with fail
     refine HSM.out.mono ?_
     rintro e w8 ⟨rfl,hb8⟩
     have hb78:=bt2 HB7.out hb8
     have HAW:=Lib.hid (awake26 w8 (HG.out.below hb78))
     have HB8:=Lib.hid hb78
     clear hb8 hb78 HSM HB7
     go_wp2_with fail
     refine HAW.out.mono ?_
     rintro e w9 ⟨rfl,hb9⟩
     have HB9:=Lib.hid (bt2 HB8.out hb9)
     clear hb9 HAW HB8
     go_wp2_with fail
     go_ret
     exact⟨rfl,HB9.out⟩
    ·have he2:¬ E2=0:=fun q=>he (HEE.out.1 q)
     have hd1:decide (E=0)=false:=by simpa using he
     have hd2:decide (E2=0)=false:=by simpa using he2
     have hq1:(E == 0)=false:=by simpa using he
     have hq2:(E2 == 0)=false:=by simpa using he2
     go_wp2_with fail
     refine HSM.out.mono ?_
     rintro e w8 ⟨rfl,hb8⟩
     have hb78:=bt2 HB7.out hb8
     have HAW:=Lib.hid (awake26 w8 (HG.out.below hb78))
     have HB8:=Lib.hid hb78
     clear hb8 hb78 HSM HB7
     go_wp2_with fail
     refine HAW.out.mono ?_
     rintro e w9 ⟨rfl,hb9⟩
     have HB9:=Lib.hid (bt2 HB8.out hb9)
     clear hb9 HAW HB8
     go_wp2_with fail
     go_ret
     exact⟨rfl,HB9.out⟩
  | succ i =>
    obtain rfl:s=(i:Int):=by omega
    clear hs
    obtain⟨c,hc⟩:∃ c,data[i]? = some c:=⟨data[i]'(by rw[HDN.out];exact hk),List.getElem?_eq_getElem (by rw[HDN.out];exact hk)⟩
    have hbw:=bt2 HB4.out BW.out
    obtain⟨b,off,cap',rv,hv,_,_,hbl0,q0,q1,hrow0⟩:=HT.out.get hc
    have hrow:=hrow0.keep hbw
    replace q0:=(hbw.cell (p:=⟨b,off+i * 2,none⟩) hbl0).trans q0
    replace q1:=(hbw.cell (p:=⟨b,off+i * 2+1,none⟩) hbl0).trans q1
    have hbl:=Nat.lt_of_lt_of_le hbl0 hbw.size
    have HBL0:=Lib.hid (show b<w4.heap.size from Nat.lt_of_lt_of_le hbl0 HB4.out.size)
    rw[HDN.out] at hv
    simp only[Value.slice.injEq,true_and] at hv
    obtain⟨rfl,rfl⟩:=hv
    obtain⟨ya,yc,rfl,_,hym⟩:=hrow.form
    obtain⟨m,hm⟩:∃ m,c.rows.length=m:=⟨_,rfl⟩
    have hmb:m<=1048576:=by have:=nRows_mem (List.mem_of_getElem? hc);omega
    rw[hm] at q1 hrow
    have HMN:=Lib.hid hm
    have HCC:=Lib.hid hc
    have HRW:=Lib.hid hrow
    have hin:i<dn:=hk
    have hdi:decide ((i:Int)<0)=false:=by simp
    have hdin:decide ((dn:Int)<=(i:Int))=false:=by simp;omega
    have hHQ:wo.cell? ⟨b,off+i * 2,none⟩=some (.string ⟨c.rel.toArray⟩)/\wo.cell? ⟨b,off+i * 2+1,none⟩=some (.slice ya m yc)/\b<wo.heap.size:=⟨q0,q1,hbl⟩
    have HQ0:=Lib.hid hHQ
    obtain⟨x,hx⟩:∃ x,wo.heap.size=x:=⟨_,rfl⟩
    have b1:Below wo.heap.size wo (wo.alloc (.cells #[.string ⟨c.rel.toArray⟩,.slice none 0 0] 47)):=balloc (Below.refl _ _) _
    have hX:Blk (wo.alloc (.cells #[.string ⟨c.rel.toArray⟩,.slice none 0 0] 47)) x 47 #[.string ⟨c.rel.toArray⟩,.slice none 0 0]:=hx ▸ Blk.new _ _ _
    unfold maxLen at hym
    have hbx:b<x:=hx ▸ hbl
    clear hm hc hrow hrow0 hbl0 hbw hHQ
    go_wp2_with fail
    obtain⟨W1,hW1⟩:∃ W1,wo.alloc (.cells #[.string ⟨c.rel.toArray⟩,.slice none 0 0] 47)=W1:=⟨_,rfl⟩
    rw[hW1] at b1 hX ⊢
    have hz1:W1.heap.size=x+1:=by rw[<-hW1,<-hx];simp
    have HX:=Lib.hid hX
    have HB1:=Lib.hid b1
    have HZX:=Lib.hid hx
    clear hX b1 hW1 hx q0 q1
    go_loopw [12] (fun j wr=>∃ (k2:Nat) (s2:Int) (va:Option Addr) (vn vc:Nat),k2<=m/\j=.int .i64 s2/\s2=(k2:Int) - 1/\Hid (vn=(twD c.rows k2).length)/\Hid (RwsO W1.heap.size wr (.slice va vn vc) (twD c.rows k2))/\Hid (Blk wr x 47 #[.string ⟨c.rel.toArray⟩,.slice va vn vc])/\Hid (Mod (fun q=>q=x) W1 wr)) (fun j _=>(intOf j+1).toNat)
    case atStart =>
     refine⟨m,_,none,0,0,Nat.le_refl _,rfl,rfl,Lib.hid ?_,Lib.hid ?_,HX,Lib.hid (Mod.refl _ _)⟩
     ·rw[<-HMN.out,twD_end];rfl
     ·rw[<-HMN.out,twD_end];exact⟨[],World.ownsRow_nil _ _ _ _,trivial⟩
    case round =>
     obtain⟨k2,s2,va,vn,vc,hk2,rfl,hs2,VN,VO,VX,VM⟩:=hrel
     obtain⟨wi,rfl⟩:∃ wi:World,wi=wr:=⟨_,rfl⟩
     cases k2 with
     | zero =>
       obtain rfl:s2 = -1:=by omega
       clear hs2
       have hwi:Below wo.heap.size wo wi:=HB1.out.trans (VM.out.below (B:=wo.heap.size) (by rw[HZX.out,hz1];omega) (fun q e=>by rw[HZX.out];omega))
       have c0:=VX.out.cell 0
       have c1:=VX.out.cell 1
       simp only[List.getElem?_toArray,List.getElem?_cons_zero,List.getElem?_cons_succ] at c0 c1
       have HSF:=Lib.hid (show wi.cell? ⟨x,0,none⟩=some (.string ⟨c.rel.toArray⟩)/\wi.cell? ⟨x,1,none⟩=some (.slice va vn vc)/\wi.cell? ⟨b,off+i * 2,none⟩=some (.string ⟨c.rel.toArray⟩)/\x<wi.heap.size/\b<wi.heap.size from ⟨c0,c1,(hwi.cell (p:=⟨b,off+i * 2,none⟩) HQ0.out.2.2).trans HQ0.out.1,VX.out.lt,Nat.lt_of_lt_of_le HQ0.out.2.2 hwi.size⟩)
       have ow1:=(MT.ofBelow (B:=0) (Ts:=[]) HB1.out).ownsRow OW.out (by simp)
       have OWi:=Lib.hid (VM.out.ownsRow ow1 (fun q hq e=>by have:=(OW.out.lt q hq).2;have:=HZX.out;omega))
       have ALi:=Lib.hid (AL.out.mono fun q a hh=>((hh.mt (MT.ofBelow (B:=0) (Ts:=[]) HB1.out) (by simp) (by simp)).store HX.out (by decide) (by decide) VM.out:TblO w4.heap.size wi q a))
       have BWi:=Lib.hid (BW.out.trans (hwi.mono BW.out.size))
       have hlw:w4.heap.size<=W1.heap.size:=by have:=BW.out.size;have:=HZX.out;omega
       have hto:TblO w4.heap.size wi [.string ⟨c.rel.toArray⟩,.slice va vn vc] ⟨c.rel,twD c.rows 0⟩:=⟨_,rfl,VO.out.low hlw⟩
       have HTO:=Lib.hid hto
       have htn2:tun<=2097152:=by
        have h1:=TN.out
        rw[turnT_len,List.length_drop] at h1
        have:=HDN.out
        omega
       clear hwi c0 c1 ow1 hlw hto
       go_upto_region 11 with fail
       obtain⟨SS,hSS⟩:∃ SS:World->Prop,SS=fun W=>W.cell? ⟨x,0,none⟩=some (.string ⟨c.rel.toArray⟩)/\W.cell? ⟨x,1,none⟩=some (.slice va vn vc)/\W.cell? ⟨b,off+i * 2,none⟩=some (.string ⟨c.rel.toArray⟩)/\x<W.heap.size/\b<W.heap.size:=⟨_,rfl⟩
       have HSC:=Lib.hid (fun W (q:SS W)=>(by rw[hSS] at q;exact q:W.cell? ⟨x,0,none⟩=some (.string ⟨c.rel.toArray⟩)/\W.cell? ⟨x,1,none⟩=some (.slice va vn vc)/\W.cell? ⟨b,off+i * 2,none⟩=some (.string ⟨c.rel.toArray⟩)/\x<W.heap.size/\b<W.heap.size))
       have HSI:=Lib.hid (fun W (q:W.cell? ⟨x,0,none⟩=some (.string ⟨c.rel.toArray⟩)/\W.cell? ⟨x,1,none⟩=some (.slice va vn vc)/\W.cell? ⟨b,off+i * 2,none⟩=some (.string ⟨c.rel.toArray⟩)/\x<W.heap.size/\b<W.heap.size)=>(by rw[hSS];exact q:SS W))
       clear hSS
       have HSS:SS wi.drew:=HSI.out _ (HSF.out)
       refine wp_region_held_drew (by kernel_rfl) HSS (fun _=>?_)
       have HSK:Hid (∀ W,Below wi.heap.size wi W->SS W):=Lib.hid (fun W hW=>HSI.out W ⟨(hW.cell (p:=⟨x,0,none⟩) HSF.out.2.2.2.1).trans HSF.out.1,(hW.cell (p:=⟨x,1,none⟩) HSF.out.2.2.2.1).trans HSF.out.2.1,(hW.cell (p:=⟨b,off+i * 2,none⟩) HSF.out.2.2.2.2).trans HSF.out.2.2.1,Nat.lt_of_lt_of_le HSF.out.2.2.2.1 hW.size,Nat.lt_of_lt_of_le HSF.out.2.2.2.2 hW.size⟩)
       refine Held.tk 0 72 HSS ?_
       refine Held.tk 1 73 HSS ?_
       refine Held.tk 2 74 HSS ?_
       refine Held.on 3 (fun K hK=>?_)
       go_simp
       refine hK.out _ _ HSS ?_
       clear hK K
       try simp only[List.setIfInBounds_toArray,List.set_cons_succ,List.set_cons_zero]
       refine Held.on 4 (fun K hK=>?_)
       go_simp
       refine hK.out _ _ HSS ?_
       clear hK K
       try simp only[List.setIfInBounds_toArray,List.set_cons_succ,List.set_cons_zero]
       refine Held.on 5 (fun K hK=>?_)
       go_simp
       refine hK.out _ _ HSS ?_
       clear hK K
       try simp only[List.setIfInBounds_toArray,List.set_cons_succ,List.set_cons_zero]
       refine Held.on 6 (fun K hK=>?_)
       have q:=HSC.out _ HSS
       repeat (obtain⟨_,q⟩:=q)
       go_simp
       refine hK.out _ _ HSS ?_
       clear hK K
       clear q
       try simp only[List.setIfInBounds_toArray,List.set_cons_succ,List.set_cons_zero]
       refine Held.on 7 (fun K hK=>?_)
       go_simp
       refine hK.out _ _ HSS ?_
       clear hK K
       try simp only[List.setIfInBounds_toArray,List.set_cons_succ,List.set_cons_zero]
       refine Held.on 8 (fun K hK=>?_)
       go_simp
       have hn3:=World.news_of_block (Blk.new wi 47 #[.string ⟨c.rel.toArray⟩,.slice va vn vc,.string ⟨c.rel.toArray⟩,.slice none 0 0]).drew
       have hb3':Below wi.heap.size wi (wi.alloc (.cells #[.string ⟨c.rel.toArray⟩,.slice va vn vc,.string ⟨c.rel.toArray⟩,.slice none 0 0] 47)).drew:=bdrew (balloc (Below.refl _ _) _)
       obtain⟨a3,ha3⟩:∃ a3,(wi.alloc (.cells #[.string ⟨c.rel.toArray⟩,.slice va vn vc,.string ⟨c.rel.toArray⟩,.slice none 0 0] 47)).drew=a3:=⟨_,rfl⟩
       rw[ha3] at hn3 hb3' ⊢
       have HN3:=Lib.hid hn3
       have HB3':=Lib.hid hb3'
       clear HSS
       have HSS:=HSK.out _ HB3'.out
       refine hK.out _ _ HSS ?_
       clear hK K hn3 hb3' ha3
       try simp only[List.setIfInBounds_toArray,List.set_cons_succ,List.set_cons_zero]
       refine Held.on 9 (fun K hK=>?_)
       have hro3:=(MT.ofBelow (B:=0) (Ts:=[]) HB3'.out).ownsRow OWi.out (by simp)
       refine step_append_lies _ rfl (.tmp 72) (.tmp 80) 23 rfl w4.heap.size 47 it (.agg #[.string ⟨#[]⟩,.slice none 0 0]) 2 40 Tryz.underlying23 hit ht0 ht1 ht2 rfl (by decide) (.slice tua tun tuc) tun rws.flatten rfl hro3 ⟨_,0,none⟩ 2 2 [.string ⟨c.rel.toArray⟩,.slice va vn vc,.string ⟨c.rel.toArray⟩,.slice none 0 0] rfl rfl HN3.out (by simp [Value.oneCell']) (by decide) (by unfold maxLen;omega) (by omega) (Nat.le_trans BWi.out.size HB3'.out.size) _ rfl ?_
       intro g5 cap5 w5 hown5 hgrow5 hat5 hlt5
       have m35:MT 0 [47] a3 w5:=(MT.refl a3).grown hgrow5 hro3 (by simp) (Nat.zero_le _)
       have b35:Below w4.heap.size w4 w5:=(BWi.out.trans (HB3'.out.mono BWi.out.size)).grown hgrow5 (Nat.le_trans BWi.out.size HB3'.out.size) (fun q hq=>(hro3.lt q hq).1)
       have al5:All2 (TblO w4.heap.size w5) (rws++[[.string ⟨c.rel.toArray⟩,.slice va vn vc],[.string ⟨c.rel.toArray⟩,.slice none 0 0]]) (turnT (data.drop i)):=by
        rw[turnT_step HCC.out]
        refine all2_app2 (ALi.out.mono fun q a hh=>(hh.mt (MT.ofBelow (B:=0) (Ts:=[]) HB3'.out) (by simp) (by simp)).mt m35 (by decide) (by decide)) ⟨(HTO.out.mt (MT.ofBelow (B:=0) (Ts:=[]) HB3'.out) (by simp) (by simp)).mt m35 (by decide) (by decide),⟨_,rfl,[],World.ownsRow_nil _ _ _ _,trivial⟩,trivial⟩
       have HO5:=Lib.hid (show w5.ownsRow w4.heap.size 47 2 (.slice (some ⟨g5,0,none⟩) (tun+2) cap5) (tun+2) (rws++[[Value.string ⟨c.rel.toArray⟩,.slice va vn vc],[Value.string ⟨c.rel.toArray⟩,.slice none 0 0]]).flatten by rw[List.flatten_append];exact hown5)
       have HA5:=Lib.hid al5
       have HB5:=Lib.hid b35
       have HT5:=Lib.hid (show tun+2=(turnT (data.drop i)).length by rw[turnT_step HCC.out,List.length_append,<-TN.out];rfl)
       have hxl:x<a3.heap.size/\b<a3.heap.size:=⟨Nat.lt_of_lt_of_le HSF.out.2.2.2.1 HB3'.out.size,Nat.lt_of_lt_of_le HSF.out.2.2.2.2 HB3'.out.size⟩
       have hlx:=HSF.out.2.2.2.1
       have hcx:∀ k o:Nat,k<a3.heap.size->(k=x∨k=b)->w5.cell? ⟨k,o,none⟩=a3.cell? ⟨k,o,none⟩:=fun k o hk hp=>World.cell?_of_block (hgrow5.block k hk (fun e=>by
        have h1:=hro3.lt k e.symm
        have h2:=OW.out.lt k e.symm
        have h3:=HZX.out
        have h4:=HBL0.out
        omega))
       clear HSS
       have HSS:=HSI.out w5 ⟨(hcx x 0 hxl.1 (.inl rfl)).trans ((HB3'.out.cell (p:=⟨x,0,none⟩) HSF.out.2.2.2.1).trans HSF.out.1),(hcx x 1 hxl.1 (.inl rfl)).trans ((HB3'.out.cell (p:=⟨x,1,none⟩) HSF.out.2.2.2.1).trans HSF.out.2.1),(hcx b (off+i * 2) hxl.2 (.inr rfl)).trans ((HB3'.out.cell (p:=⟨b,off+i * 2,none⟩) HSF.out.2.2.2.2).trans HSF.out.2.2.1),Nat.lt_of_lt_of_le hxl.1 hgrow5.size,Nat.lt_of_lt_of_le hxl.2 hgrow5.size⟩
       refine hK.out _ _ HSS ?_
       clear hK K hro3 hown5 hgrow5 hat5 hlt5 m35 b35 al5 hxl hlx hcx
       simp only[Act.put,List.getElem_toArray,List.getElem_cons_succ,List.getElem_cons_zero,List.setIfInBounds_toArray,List.set_cons_succ,List.set_cons_zero]
       try simp only[List.setIfInBounds_toArray,List.set_cons_succ,List.set_cons_zero]
       refine Held.tk 10 9 HSS ?_
       refine wpAnyH_done (by kernel_rfl) ?_ _
       clear HSS HSC HSI HSK
       go_wp2_with fail
       go_roundw
       case rel=>exact⟨i,_,_,_,_,_,by omega,by go_num,rfl,rfl,HT5,HO5,HA5,HB5⟩
       case measure=>simp [intOf]
     | succ j =>
       obtain rfl:s2=(j:Int):=by omega
       clear hs2
       obtain⟨r,hr⟩:∃ r,c.rows[j]? = some r:=⟨c.rows[j]'(by rw[HMN.out];exact hk2),List.getElem?_eq_getElem (by rw[HMN.out];exact hk2)⟩
       have hwi:Below wo.heap.size wo wi:=HB1.out.trans (VM.out.below (B:=wo.heap.size) (by rw[HZX.out,hz1];omega) (fun q e=>by rw[HZX.out];omega))
       obtain⟨yb,yoff,ycap,zv,hyv,_,_,hyl0,p0,hzr0,hzl⟩:=HRW.out.get hr
       have hzr:=RowAt.keep hzr0 hwi
       have hyl:=Nat.lt_of_lt_of_le hyl0 hwi.size
       rw[HMN.out] at hyv
       simp only[Value.slice.injEq,true_and] at hyv
       obtain⟨rfl,rfl⟩:=hyv
       simp only[Nat.mul_one] at p0
       have HCA:=Lib.hid (fun W (hW:Below wi.heap.size wi W)=>copyRow_any W zv r (RowAt.keep hzr hW) hzl)
       obtain⟨za,zc,rfl,_,_⟩:=hzr.form
       rw[List.length_map] at p0 HCA
       obtain⟨zn,hzn⟩:∃ zn,r.length=zn:=⟨_,rfl⟩
       rw[hzn] at p0 HCA hzl
       have HP0:=Lib.hid (And.intro p0 (show yb<x by rw[<-HZX.out];exact hyl0))
       replace p0:=(hwi.cell (p:=⟨yb,yoff+j,none⟩) hyl0).trans p0
       have HZN:=Lib.hid hzn
       have HRR:=Lib.hid hr
       have HZL:=Lib.hid hzl
       have hjm:j<m:=hk2
       have hdj:decide ((j:Int)<0)=false:=by simp
       have hdjm:decide ((m:Int)<=(j:Int))=false:=by simp;omega
       have c1:=VX.out.cell 1
       simp only[List.getElem?_toArray,List.getElem?_cons_zero,List.getElem?_cons_succ] at c1
       have HSF:=Lib.hid (show wi.cell? ⟨x,1,none⟩=some (.slice va vn vc)/\wi.cell? ⟨b,off+i * 2+1,none⟩=some (.slice (some ⟨yb,yoff,none⟩) m yc)/\wi.cell? ⟨yb,yoff+j,none⟩=some (.slice za zn zc)/\x<wi.heap.size/\b<wi.heap.size/\yb<wi.heap.size from ⟨c1,(hwi.cell (p:=⟨b,off+i * 2+1,none⟩) HQ0.out.2.2).trans HQ0.out.2.1,p0,VX.out.lt,Nat.lt_of_lt_of_le HQ0.out.2.2 hwi.size,hyl⟩)
       clear hr hwi hzr hzr0 hzl hzn p0 hyl hyl0 c1
       go_upto_region 10 with fail
       obtain⟨SS,hSS⟩:∃ SS:World->Prop,SS=fun W=>W.cell? ⟨x,1,none⟩=some (.slice va vn vc)/\W.cell? ⟨b,off+i * 2+1,none⟩=some (.slice (some ⟨yb,yoff,none⟩) m yc)/\W.cell? ⟨yb,yoff+j,none⟩=some (.slice za zn zc)/\x<W.heap.size/\b<W.heap.size/\yb<W.heap.size:=⟨_,rfl⟩
       have HSC:=Lib.hid (fun W (q:SS W)=>(by rw[hSS] at q;exact q:W.cell? ⟨x,1,none⟩=some (.slice va vn vc)/\W.cell? ⟨b,off+i * 2+1,none⟩=some (.slice (some ⟨yb,yoff,none⟩) m yc)/\W.cell? ⟨yb,yoff+j,none⟩=some (.slice za zn zc)/\x<W.heap.size/\b<W.heap.size/\yb<W.heap.size))
       have HSI:=Lib.hid (fun W (q:W.cell? ⟨x,1,none⟩=some (.slice va vn vc)/\W.cell? ⟨b,off+i * 2+1,none⟩=some (.slice (some ⟨yb,yoff,none⟩) m yc)/\W.cell? ⟨yb,yoff+j,none⟩=some (.slice za zn zc)/\x<W.heap.size/\b<W.heap.size/\yb<W.heap.size)=>(by rw[hSS];exact q:SS W))
       clear hSS
       have HSS:SS wi.drew:=HSI.out _ (HSF.out)
       refine AnyTill.start SS 23 (by kernel_rfl) ?_
       have HSK:Hid (∀ W,Below wi.heap.size wi W->SS W):=Lib.hid (fun W hW=>HSI.out W ⟨(hW.cell (p:=⟨x,1,none⟩) HSF.out.2.2.2.1).trans HSF.out.1,(hW.cell (p:=⟨b,off+i * 2+1,none⟩) HSF.out.2.2.2.2.1).trans HSF.out.2.1,(hW.cell (p:=⟨yb,yoff+j,none⟩) HSF.out.2.2.2.2.2).trans HSF.out.2.2.1,Nat.lt_of_lt_of_le HSF.out.2.2.2.1 hW.size,Nat.lt_of_lt_of_le HSF.out.2.2.2.2.1 hW.size,Nat.lt_of_lt_of_le HSF.out.2.2.2.2.2 hW.size⟩)
       refine AnyTill.tk 0 49 HSS ?_
       refine AnyTill.tk 1 50 HSS ?_
       refine AnyTill.tk 2 51 HSS ?_
       refine AnyTill.tk 3 52 HSS ?_
       refine AnyTill.tk 4 53 HSS ?_
       refine AnyTill.tk 5 54 HSS ?_
       refine AnyTill.tk 6 55 HSS ?_
       refine AnyTill.tk 7 56 HSS ?_
       refine AnyTill.tk 8 57 HSS ?_
       refine AnyTill.tk 9 58 HSS ?_
       refine AnyTill.tk 11 60 HSS ?_
       refine AnyTill.tk 12 61 HSS ?_
       refine AnyTill.tk 13 62 HSS ?_
       refine AnyTill.tk 14 63 HSS ?_
       refine AnyTill.tk 15 64 HSS ?_
       refine AnyTill.tk 16 65 HSS ?_
       refine AnyTill.tk 17 66 HSS ?_
       refine AnyTill.tk 18 67 HSS ?_
       refine AnyTill.on 10 (fun K hK=>?_)
       go_simp
       refine (HCA.out _ (bdrew (Below.refl _ _))).mono ?_
       rintro e a1 ⟨u1,rfl,ho1,hb1⟩
       obtain⟨ua1,uc1,rfl⟩:=own_sl ho1
       have HB1':=Lib.hid (bt2 (bdrew (Below.refl _ _)) hb1)
       have HB01:=Lib.hid hb1
       have HO1':=Lib.hid ho1
       clear HSS
       have HSS:=HSK.out _ HB1'.out
       refine hK.out _ _ (fun _=>HSS) ?_
       clear hK K ho1 hb1
       try simp only[List.setIfInBounds_toArray,List.set_cons_succ,List.set_cons_zero]
       refine AnyTill.on 19 (fun K hK=>?_)
       go_simp
       refine (HCA.out _ HB1'.out).mono ?_
       rintro e a2 ⟨u2,rfl,ho2,hb2⟩
       obtain⟨ua2,uc2,rfl⟩:=own_sl ho2
       have HB2':=Lib.hid (bt2 HB1'.out hb2)
       have HB12:=Lib.hid hb2
       have HO2':=Lib.hid ho2
       clear HSS
       have HSS:=HSK.out _ HB2'.out
       refine hK.out _ _ (fun _=>HSS) ?_
       clear hK K ho2 hb2
       try simp only[List.setIfInBounds_toArray,List.set_cons_succ,List.set_cons_zero]
       refine AnyTill.on 20 (fun K hK=>?_)
       go_simp
       have hn3:=World.news_of_block (Blk.new a2 59 #[.slice ua1 zn uc1,.slice ua2 zn uc2])
       have hb3':=balloc HB2'.out (.cells #[.slice ua1 zn uc1,.slice ua2 zn uc2] 59)
       obtain⟨a3,ha3⟩:∃ a3,a2.alloc (.cells #[.slice ua1 zn uc1,.slice ua2 zn uc2] 59)=a3:=⟨_,rfl⟩
       have hb23:Below a2.heap.size a2 a3:=ha3 ▸ balloc (Below.refl _ _) _
       rw[ha3] at hn3 hb3' ⊢
       have HN3:=Lib.hid hn3
       have HB3':=Lib.hid hb3'
       have HB23:=Lib.hid hb23
       clear HSS
       have HSS:=HSK.out _ HB3'.out
       refine hK.out _ _ (fun _=>HSS) ?_
       clear hK K hn3 hb3' hb23 ha3
       try simp only[List.setIfInBounds_toArray,List.set_cons_succ,List.set_cons_zero]
       refine AnyTill.on 21 (fun K hK=>?_)
       obtain⟨R,hro,hra⟩:=VO.out
       rw[<-VN.out] at hro
       have hro3:=(MT.ofBelow (B:=0) (Ts:=[]) HB3'.out).ownsRow hro (by simp)
       have hvn:vn<=2097152:=by have:=twD_len c.rows (j+1);have:=VN.out;have:=HMN.out;omega
       have hsz3:=HB3'.out.size
       have hszi:=VM.out.size
       refine step_append_lies _ rfl (.tmp 50) (.tmp 69) 45 rfl W1.heap.size 59 ir (.slice none 0 0) 1 24 Tryz.underlying45 hir hr0 hr1 hr2 rfl (by decide) (.slice va vn vc) vn R rfl hro3 ⟨_,0,none⟩ 2 2 [.slice ua1 zn uc1,.slice ua2 zn uc2] rfl rfl HN3.out (by simp [Value.oneCell']) (by decide) (by unfold maxLen;omega) (by omega) (by omega) _ rfl ?_
       intro g5 cap5 w5 hown5 hgrow5 hat5 hlt5
       have m35:MT 0 [59] a3 w5:=(MT.refl a3).grown hgrow5 hro3 (by simp) (Nat.zero_le _)
       have d35:Mod (fun q=>q=x) W1 w5:=((VM.out.trans (Mod.ofBelow (F:=fun _=>False) HB3'.out) (fun _ _ f=>f.elim))).grown hgrow5 (fun q hq hql=>by
        have:=(hro3.lt q hq).1
        omega)
       have hx5:Blk w5 x 47 #[.string ⟨c.rel.toArray⟩,.slice va vn vc]:=(VX.out.below HB3'.out VX.out.lt).grown hgrow5 (fun e=>by
        have:=(hro3.lt x e.symm).1
        omega)
       have hal5:All2 (RoO W1.heap.size w5) (R++[.slice ua1 zn uc1,.slice ua2 zn uc2]) (twD c.rows j):=by
        rw[twD_step HRR.out]
        have hl1:W1.heap.size<=wi.heap.size:=hszi
        have r1:RoO W1.heap.size w5 (.slice ua1 zn uc1) r:=⟨m35.ownsRow ((MT.ofBelow (B:=0) (Ts:=[]) HB23.out).ownsRow ((MT.ofBelow (B:=0) (Ts:=[]) HB12.out).ownsRow (World.ownsRow.low (by rw[HZN.out];exact HO1'.out) hl1) (by simp)) (by simp)) (by decide),by rw[HZN.out];exact HZL.out⟩
        have r2:RoO W1.heap.size w5 (.slice ua2 zn uc2) r:=⟨m35.ownsRow ((MT.ofBelow (B:=0) (Ts:=[]) HB23.out).ownsRow (World.ownsRow.low (by rw[HZN.out];exact HO2'.out) (Nat.le_trans hl1 HB1'.out.size)) (by simp)) (by decide),by rw[HZN.out];exact HZL.out⟩
        exact all2_app2 (hra.mono fun q a hh=>(hh.mtAny (MT.ofBelow (B:=0) (Ts:=[]) HB3'.out) (by simp)).mtAny m35 (by decide)) ⟨r1,r2,trivial⟩
       have hvn2:vn+2=(twD c.rows j).length:=by rw[twD_step HRR.out,List.length_append,<-VN.out];rfl
       have HV5:=Lib.hid (show RwsO W1.heap.size w5 (.slice (some ⟨g5,0,none⟩) (vn+2) cap5) (twD c.rows j) from ⟨_,by rw[<-hvn2];exact hown5,hal5⟩)
       have HX5:=Lib.hid hx5
       have HD5:=Lib.hid d35
       have HVN:=Lib.hid hvn2
       have hcell:∀ p:Addr,p.block<x->w5.cell? p=wo.cell? p:=fun p hp=>(d35.cell (by omega) (by omega)).trans (HB1.out.cell (by rw[HZX.out];exact hp))
       have hbx':b<x:=by rw[<-HZX.out];exact HQ0.out.2.2
       clear HSS
       have c15:=hx5.cell 1
       simp only[List.getElem?_toArray,List.getElem?_cons_zero,List.getElem?_cons_succ] at c15
       have hl5:=d35.size
       have HSS:=HSI.out w5 ⟨c15,(hcell ⟨b,off+i * 2+1,none⟩ hbx').trans HQ0.out.2.1,(hcell ⟨yb,yoff+j,none⟩ HP0.out.2).trans HP0.out.1,hx5.lt,by omega,by have:=HP0.out.2;omega⟩
       refine hK.out _ _ (fun _=>HSS) ?_
       clear hK K hro hra hro3 hvn hsz3 hszi hown5 hgrow5 hat5 hlt5 m35 d35 hx5 hal5 hvn2 hcell hbx' c15 hl5
       simp only[Act.put,List.getElem_toArray,List.getElem_cons_succ,List.getElem_cons_zero,List.setIfInBounds_toArray,List.set_cons_succ,List.set_cons_zero]
       try simp only[List.setIfInBounds_toArray,List.set_cons_succ,List.set_cons_zero]
       refine AnyTill.tk 22 71 HSS ?_
       refine AnyTill.on 23 (fun K hK=>?_)
       have c15:=HX5.out.cell 1
       have f15:=HX5.out.frozen 1
       have l5:=HX5.out.lt
       simp only[List.getElem?_toArray,List.getElem?_cons_zero,List.getElem?_cons_succ] at c15
       go_simp
       refine hK.out _ _ (fun h=>by simp at h) ?_
       clear hK K c15 f15 l5
       refine AnyTill.done (by kernel_rfl) ?_
       clear HSS HSC HSI HSK
       have hm6:Mod (fun q=>q=x) w5 (w5.setCell ⟨x,1,none⟩ (.slice (some ⟨g5,0,none⟩) (vn+2) cap5)):=(Mod.refl (fun q=>q=x) w5).setCell (p:=⟨x,1,none⟩) (fun _=>rfl) _
       have hx6:Blk (w5.setCell ⟨x,1,none⟩ (.slice (some ⟨g5,0,none⟩) (vn+2) cap5)) x 47 #[.string ⟨c.rel.toArray⟩,.slice (some ⟨g5,0,none⟩) (vn+2) cap5]:=by simpa using HX5.out.set_ 1 (.slice (some ⟨g5,0,none⟩) (vn+2) cap5)
       have hv6:=HV5.out.store HX5.out (by decide) (by decide) hm6
       have hd6:=HD5.out.trans hm6 (fun _ _ e=>e)
       have HX6:=Lib.hid hx6
       have HV6:=Lib.hid hv6
       have HD6:=Lib.hid hd6
       clear hm6 hx6 hv6 hd6
       go_wp2_with fail
       go_roundw
       case rel=>exact⟨j,_,_,_,_,by omega,by go_num,rfl,HVN,HV6,HX6,HD6⟩
       case measure=>simp [intOf]
end Go.Proofs.YtgopfpjinohncaaGreatDoor
