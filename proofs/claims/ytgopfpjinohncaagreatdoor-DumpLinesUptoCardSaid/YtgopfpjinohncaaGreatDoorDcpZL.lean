/- Rows, tables and queries copied by the document's code and the law's; walked (printed by mkdcp.py). -/
import Derived.Test.YtgopfpjinohncaaGreatDoorRaL
import Derived.Test.YtgopfpjinohncaaGreatDoorArzZL
import Derived.Test.YtgopfpjinohncaaGreatDoorGmL
import Derived.Test.YtgopfpjinohncaaGreatDoorCqoZL
import Derived.Test.YtgopfpjinohncaaGreatDoorSkgZL
import Derived.Deep.RegionLaw
namespace Go.Proofs.YtgopfpjinohncaaGreatDoor
open Go.RowKit
set_option linter.unusedVariables false
def RwsO (B:Nat) (w:World) (v:Value) (l:List (List Vl)):Prop:=∃ R,w.ownsRow B 59 1 v l.length R/\All2 (RoO B w) R l
theorem RoO.mtAny {B:Nat} {w w':World} {x:Value} {r:List Vl} {Ts:List TypeId} {B':Nat} (h:RoO B w x r) (hm:MT B' Ts w w') (ht:111 ∉ Ts):RoO B w' x r:=⟨hm.ownsRow h.1 ht,h.2⟩
theorem RoO.low {B B':Nat} {w:World} {x:Value} {r:List Vl} (h:RoO B w x r) (hb:B'<=B):RoO B' w x r:=⟨World.ownsRow.low h.1 hb,h.2⟩
theorem RwsO.mt {B B':Nat} {w w':World} {v:Value} {l:List (List Vl)} {Ts:List TypeId} (h:RwsO B w v l) (hm:MT B' Ts w w') (h1:59 ∉ Ts) (h2:111 ∉ Ts):RwsO B w' v l:=by
 obtain⟨R,h3,h4⟩:=h
 exact⟨R,hm.ownsRow h3 h1,h4.mono fun b a hh=>hh.mtAny hm h2⟩
theorem RwsO.low {B B':Nat} {w:World} {v:Value} {l:List (List Vl)} (h:RwsO B w v l) (hb:B'<=B):RwsO B' w v l:=by
 obtain⟨R,h3,h4⟩:=h
 exact⟨R,World.ownsRow.low h3 hb,h4.mono fun b a hh=>hh.low hb⟩
theorem RwsO.at_ {B:Nat} {w:World} {v:Value} {l:List (List Vl)} (h:RwsO B w v l) (hl:l.length<=8796093022208):RowsAt w v l:=by
 obtain⟨R,h3,h4⟩:=h
 exact RowsAt.ofOwn1 h3 rfl hl (h4.mono fun b a hh=>⟨hh.at_,hh.2⟩)
set_option maxHeartbeats 8000000 in
set_option maxRecDepth 100000 in
theorem copyRows_any (w:World) (v:Value) (l:List (List Vl)) (h:RowsAt w v l) (hn:l.length<=1099511627776) :
 Calls Tryz.prog 29 #[v] w fun e w'=>∃ v',e=.returned v'/\RwsO w.heap.size w' v' l/\Below w.heap.size w w':=by
 obtain⟨ic,hic,hc0,hc1,hc2⟩:=info_parts Tryz.infoRow
 obtain⟨ad,cap,rfl,hnc,hcm⟩:=h.form
 unfold maxLen at hcm
 have HR:=Lib.hid h
 clear h
 generalize hN:l.length=n at *
 have HN:=Lib.hid hN
 clear hN
 go_enter Tryz.func29,Tryz.ntmps29
 go_wp2_with (at_make;refine wpList_make_full _ rfl _ _ 45 rfl w.heap.size 59 ic (.slice none 0 0) 1 Tryz.underlying45 hic hc0 hc1 _ _ _ _ n rfl rfl rfl rfl ?b2 ?b3 ?b4 ?_)
 case b2=>rw[hc2];omega
 case b3=>unfold maxLen;omega
 case b4=>omega
 intro w5 hown5 hgrow5
 have hb5:Below w.heap.size w w5:=Below.grown (Below.refl _ _) hgrow5 (Nat.le_refl _) (fun q hq=>by cases hq)
 have HO5:=Lib.hid hown5
 have HB5:=Lib.hid hb5
 clear hown5 hgrow5 hb5
 go_wp2_with fail
 go_loopw [4] (fun i wr=>∃ (k:Nat) (R:List Value),k<=n/\i=.int .i64 k/\Hid (wr.ownsRow w.heap.size 59 1 (.slice (some ⟨w.heap.size,0,none⟩) n n) n R)/\Hid (All2 (RoO w.heap.size wr) (R.take k) (l.take k))/\Hid (Below w.heap.size w wr)) (fun i _=>n - (intOf i).toNat)
 case atStart=>exact⟨0,_,Nat.zero_le _,rfl,HO5,Lib.hid trivial,HB5⟩
 case round =>
  obtain⟨k,R,hk,rfl,OW,AL,BW⟩:=hrel
  obtain⟨wo,rfl⟩:∃ wo:World,wo=wr:=⟨_,rfl⟩
  have HRL:=Lib.hid (show R.length=n by have:=OW.out.1;omega)
  by_cases hkn:k<n
  ·obtain⟨c,hc⟩:∃ c,l[k]? = some c:=⟨l[k]'(by rw[HN.out];exact hkn),List.getElem?_eq_getElem (by rw[HN.out];exact hkn)⟩
   obtain⟨b,off,cap',rv,hv,_,_,hbl,q0,hrow,hrl⟩:=(HR.out.keep BW.out).get hc
   rw[HN.out] at hv
   simp only[Value.slice.injEq,true_and] at hv
   obtain⟨rfl,rfl⟩:=hv
   simp only[Nat.mul_one] at q0
   have hdk:decide ((k:Int)<0)=false:=by simp
   have hdn:decide ((n:Int)<=(k:Int))=false:=by simp;omega
   have HCR:=Lib.hid (copyRow_any wo rv c hrow hrl)
   obtain⟨xa,xc,rfl,_,_⟩:=hrow.form
   have HCC:=Lib.hid hc
   have HRW:=Lib.hid hrl
   clear hc hrow
   rw[List.length_map] at q0 HCR
   obtain⟨cn,hcn⟩:∃ cn,c.length=cn:=⟨_,rfl⟩
   rw[hcn] at q0 HCR HRW
   have HCN:=Lib.hid hcn
   clear hcn hrl
   go_wp2_with fail
   refine HCR.out.mono ?_
   rintro e w6 ⟨u,rfl,hu,hb6⟩
   obtain⟨ua,uc,rfl⟩:=own_sl hu
   have ho6:=(MT.ofBelow (B:=0) (Ts:=[]) hb6).ownsRow OW.out (by simp)
   have zl:=ho6.lt w.heap.size rfl
   obtain⟨z,hz⟩:∃ z,R[k]? = some z:=⟨R[k]'(by rw[HRL.out];exact hkn),List.getElem?_eq_getElem (by rw[HRL.out];exact hkn)⟩
   have z0:=own1_get ho6 hz
   have zf:=ho6.frozenAt k
   have hs:=own1_set ho6 k (.slice ua cn uc)
   have hmt:=mt_own (Ts:=[59]) hs.2 ho6 (by simp)
   have hmt6:=(MT.ofBelow (B:=0) (Ts:=[59]) hb6).trans hmt
   have hbw:=(BW.out.trans (hb6.mono BW.out.size)).trans (hs.2.below (by have:=BW.out.size;have:=hb6.size;omega) (fun q hq=>by rw[hq];exact Nat.le_refl _))
   have HU:=Lib.hid (show RoO w.heap.size (w6.setCell ⟨w.heap.size,k,none⟩ (.slice ua cn uc)) (.slice ua cn uc) c from RoO.mtAny ⟨by rw[HCN.out];exact World.ownsRow.low hu BW.out.size,by rw[HCN.out];exact HRW.out⟩ hmt (by decide))
   have HS:=Lib.hid hs.1
   have HMT:=Lib.hid hmt6
   have HBN:=Lib.hid hbw
   have z1:=z0.1
   have z2:=z0.2
   clear hu hb6 ho6 z0 hs hmt hmt6 hbw zl HCR hz
   go_wp2_with fail
   go_roundw
   case rel =>
    refine⟨k+1,R.set k _,by omega,by go_num,HS,Lib.hid ?_,HBN⟩
    rw[set_take (by rw[HRL.out];exact hkn),List.take_add_one (l:=l),HCC.out]
    exact All2.snoc HU.out (AL.out.mono fun b a hh=>hh.mtAny HMT.out (by decide))
   case measure=>simp [intOf];omega
  ·obtain rfl:k=n:=by omega
   have hal:=AL.out
   rw[List.take_of_length_le (by rw[HRL.out];exact Nat.le_refl _),List.take_of_length_le (by rw[HN.out];exact Nat.le_refl _)] at hal
   have HAL:=Lib.hid hal
   clear hal
   go_wp2_with fail
   go_ret
   exact⟨_,rfl,⟨R,by rw[HN.out];exact OW.out,HAL.out⟩,BW.out⟩
def TblO (B:Nat) (w:World) (row:List Value) (t:Tbl):Prop:=∃ y,row=[.string ⟨t.rel.toArray⟩,y]/\RwsO B w y t.rows
theorem TblO.mt {B B':Nat} {w w':World} {row:List Value} {t:Tbl} {Ts:List TypeId} (h:TblO B w row t) (hm:MT B' Ts w w') (h1:59 ∉ Ts) (h2:111 ∉ Ts):TblO B w' row t:=by
 obtain⟨y,rfl,h3⟩:=h
 exact⟨y,rfl,h3.mt hm h1 h2⟩
theorem TblO.len {B:Nat} {w:World} {row:List Value} {t:Tbl} (h:TblO B w row t):row.length=2:=by
 obtain⟨y,rfl,_⟩:=h
 rfl
def TbsO (B:Nat) (w:World) (v:Value) (l:List Tbl):Prop:=∃ rows:List (List Value),w.ownsRow B 47 2 v l.length rows.flatten/\All2 (TblO B w) rows l
theorem TbsO.at_ {B:Nat} {w:World} {v:Value} {l:List Tbl} (h:TbsO B w v l) (hl:l.length<=8796093022208) (hr:∀ t∈l,t.rows.length<=8796093022208):TblsAt w v l:=by
 obtain⟨rows,h1,h2⟩:=h
 have hll:=h2.length
 refine⟨rows,RowAt.ofOwn h1 hll.symm (fun x hx=>?_) (by omega),all2_and h2 fun c x hx hh=>?_⟩
 ·obtain⟨t,_,ht⟩:=all2_mem h2 x hx
  exact ht.len
 ·obtain⟨y,rfl,h3⟩:=hh
  exact⟨y,rfl,h3.at_ (hr x hx)⟩
theorem Tryz.infoTbc:(Tryz.prog.info? 47).map (fun i=>(i.zero,i.size,i.bytes))=some (some (.agg #[.string ⟨#[]⟩,.slice none 0 0]),2,40):=by kernel_rfl
set_option maxHeartbeats 8000000 in
set_option maxRecDepth 100000 in
theorem copyTbls_any (w:World) (v:Value) (l:List Tbl) (h:TblsAt w v l) (hn:l.length<=1099511627776) (hrs:∀ t∈l,t.rows.length<=1099511627776) :
 Calls Tryz.prog 10 #[v] w fun e w'=>∃ v',e=.returned v'/\TbsO w.heap.size w' v' l/\Below w.heap.size w w':=by
 obtain⟨ic,hic,hc0,hc1,hc2⟩:=info_parts Tryz.infoTbc
 obtain⟨ad,cap,rfl,hnc,hcm⟩:=h.form
 unfold maxLen at hcm
 have HR:=Lib.hid h
 have HRS:=Lib.hid hrs
 clear h hrs
 generalize hN:l.length=n at *
 have HN:=Lib.hid hN
 clear hN
 go_enter Tryz.func10,Tryz.ntmps10
 go_wp2_with (at_make;refine wpList_make_full _ rfl _ _ 23 rfl w.heap.size 47 ic (.agg #[.string ⟨#[]⟩,.slice none 0 0]) 2 Tryz.underlying23 hic hc0 hc1 _ _ _ _ n rfl rfl rfl rfl ?b2 ?b3 ?b4 ?_)
 case b2=>rw[hc2];omega
 case b3=>unfold maxLen;omega
 case b4=>omega
 intro w5 hown5 hgrow5
 obtain⟨rows0,hr0,hr1,hr2⟩:=split_rows 2 n _ hown5.1
 rw[<-hr2] at hown5
 have hb5:Below w.heap.size w w5:=Below.grown (Below.refl _ _) hgrow5 (Nat.le_refl _) (fun q hq=>by cases hq)
 have HO5:=Lib.hid hown5
 have HB5:=Lib.hid hb5
 have HRL:=Lib.hid (And.intro hr0 hr1)
 clear hown5 hgrow5 hb5 hr0 hr1 hr2
 go_wp2_with fail
 go_loopw [4] (fun i wr=>∃ (k:Nat) (rows:List (List Value)),k<=n/\i=.int .i64 k/\Hid (wr.ownsRow w.heap.size 47 2 (.slice (some ⟨w.heap.size,0,none⟩) n n) n rows.flatten)/\Hid (rows.length=n/\∀ x∈rows,x.length=2)/\Hid (All2 (TblO w.heap.size wr) (rows.take k) (l.take k))/\Hid (Below w.heap.size w wr)) (fun i _=>n - (intOf i).toNat)
 case atStart=>exact⟨0,rows0,Nat.zero_le _,rfl,HO5,HRL,Lib.hid trivial,HB5⟩
 case round =>
  obtain⟨k,rows,hk,rfl,OW,RL,AL,BW⟩:=hrel
  obtain⟨wo,rfl⟩:∃ wo:World,wo=wr:=⟨_,rfl⟩
  by_cases hkn:k<n
  ·obtain⟨c,hc⟩:∃ c,l[k]? = some c:=⟨l[k]'(by rw[HN.out];exact hkn),List.getElem?_eq_getElem (by rw[HN.out];exact hkn)⟩
   obtain⟨b,off,cap',rv,hv,_,_,hbl,q0,q1,hrow⟩:=(HR.out.keep BW.out).get hc
   rw[HN.out] at hv
   simp only[Value.slice.injEq,true_and] at hv
   obtain⟨rfl,rfl⟩:=hv
   have hdk:decide ((k:Int)<0)=false:=by simp
   have hdn:decide ((n:Int)<=(k:Int))=false:=by simp;omega
   have HCR:=Lib.hid (copyRows_any wo.drew rv c.rows (hrow.keep (bdrew (Below.refl _ _))) (HRS.out c (List.mem_of_getElem? hc)))
   obtain⟨xa,xc,rfl,_,_⟩:=hrow.form
   have HCC:=Lib.hid hc
   have HQ:=Lib.hid (And.intro q0 (And.intro q1 hbl))
   obtain⟨cn,hcn⟩:∃ cn,c.rows.length=cn:=⟨_,rfl⟩
   rw[hcn] at HCR HQ
   have HCN:=Lib.hid hcn
   clear hc hrow hcn q0 q1 hbl
   go_upto_region 5 with fail
   obtain⟨SS,hSS⟩:∃ SS:World->Prop,SS=fun W=>W.cell? ⟨b,off+k * 2,none⟩=some (.string ⟨c.rel.toArray⟩)/\W.cell? ⟨b,off+k * 2+1,none⟩=some (.slice xa cn xc)/\b<W.heap.size:=⟨_,rfl⟩
   have HSC:=Lib.hid (fun W (q:SS W)=>(by rw[hSS] at q;exact q:W.cell? ⟨b,off+k * 2,none⟩=some (.string ⟨c.rel.toArray⟩)/\W.cell? ⟨b,off+k * 2+1,none⟩=some (.slice xa cn xc)/\b<W.heap.size))
   have HSI:=Lib.hid (fun W (q:W.cell? ⟨b,off+k * 2,none⟩=some (.string ⟨c.rel.toArray⟩)/\W.cell? ⟨b,off+k * 2+1,none⟩=some (.slice xa cn xc)/\b<W.heap.size)=>(by rw[hSS];exact q:SS W))
   clear hSS
   have HSS:SS wo.drew:=HSI.out _ (HQ.out)
   refine AnyTill.start SS 15 (by kernel_rfl) ?_
   refine AnyTill.tk 0 14 HSS ?_
   refine AnyTill.tk 1 15 HSS ?_
   refine AnyTill.tk 2 16 HSS ?_
   refine AnyTill.tk 3 17 HSS ?_
   refine AnyTill.tk 4 18 HSS ?_
   refine AnyTill.tk 5 19 HSS ?_
   refine AnyTill.tk 6 20 HSS ?_
   refine AnyTill.tk 7 21 HSS ?_
   refine AnyTill.on 8 (fun K hK=>?_)
   go_simp
   refine hK.out _ _ (fun _=>HSS) ?_
   clear hK K
   try simp only[List.setIfInBounds_toArray,List.set_cons_succ,List.set_cons_zero]
   refine AnyTill.on 9 (fun K hK=>?_)
   go_simp
   refine hK.out _ _ (fun _=>HSS) ?_
   clear hK K
   try simp only[List.setIfInBounds_toArray,List.set_cons_succ,List.set_cons_zero]
   refine AnyTill.on 10 (fun K hK=>?_)
   go_simp
   refine hK.out _ _ (fun _=>HSS) ?_
   clear hK K
   try simp only[List.setIfInBounds_toArray,List.set_cons_succ,List.set_cons_zero]
   refine AnyTill.tk 11 25 HSS ?_
   refine AnyTill.on 12 (fun K hK=>?_)
   go_simp
   refine HCR.out.mono ?_
   rintro e w6 ⟨u,rfl,hu,hb6⟩
   obtain⟨ua,uc,hue⟩:∃ ua uc,u=.slice ua cn uc:=by
    obtain⟨R,h3,_⟩:=hu
    obtain⟨ua,uc,rfl⟩:=own_sl h3
    exact⟨ua,uc,by rw[HCN.out]⟩
   subst hue
   have hb7:Below wo.heap.size wo w6:=bt2 (bdrew (Below.refl _ _)) hb6
   have HU:=Lib.hid (hu.low (show w.heap.size<=_ from BW.out.size))
   have HB7:=Lib.hid hb7
   have HO6:=Lib.hid ((MT.ofBelow (B:=0) (Ts:=[]) hb7).ownsRow OW.out (by simp))
   clear HSS
   have HSS:=HSI.out w6 ⟨(hb7.cell (p:=⟨b,off+k * 2,none⟩) HQ.out.2.2).trans HQ.out.1,(hb7.cell (p:=⟨b,off+k * 2+1,none⟩) HQ.out.2.2).trans HQ.out.2.1,Nat.lt_of_lt_of_le HQ.out.2.2 hb7.size⟩
   refine hK.out _ _ (fun _=>HSS) ?_
   clear hK K hu hb6 hb7 HCR
   try simp only[List.setIfInBounds_toArray,List.set_cons_succ,List.set_cons_zero]
   refine AnyTill.tk 13 27 HSS ?_
   refine AnyTill.tk 14 28 HSS ?_
   refine AnyTill.on 15 (fun K hK=>?_)
   refine step_store_elem rfl 47 _ _ rfl w.heap.size k 47 2 w.heap.size n n rows _ rfl rfl HO6.out RL.out.2 RL.out.1 hkn rfl (by kernel_rfl) (by simp [Value.oneCell']) ?_
   intro w7 h7 m7 z7
   refine hK.out _ _ (fun h=>by simp at h) ?_
   clear hK K
   refine AnyTill.done (by kernel_rfl) ?_
   clear HSC HSI HSS
   have hmt:=mt_own (Ts:=[47]) m7 HO6.out (by simp)
   have hall:All2 (TblO w.heap.size w7) ((rows.set k [.string ⟨c.rel.toArray⟩,.slice ua cn uc]).take (k+1)) (l.take (k+1)):=by
    rw[set_take (by rw[RL.out.1];exact hkn),List.take_add_one (l:=l),HCC.out]
    exact All2.snoc ⟨_,rfl,HU.out.mt hmt (by decide) (by decide)⟩ (AL.out.mono fun q a hh=>(hh.mt (MT.ofBelow (B:=0) (Ts:=[]) HB7.out) (by simp) (by simp)).mt hmt (by decide) (by decide))
   have HS:=Lib.hid h7
   have HAL:=Lib.hid hall
   have HBN:=Lib.hid (Mod.own (BW.out.trans (HB7.out.mono BW.out.size)) m7 (Nat.le_refl _))
   clear h7 m7 z7 hmt hall
   go_wp2_with fail
   go_roundw
   case rel=>exact⟨k+1,_,by omega,by go_num,HS,Lib.hid ⟨by rw[List.length_set];exact RL.out.1,set_all RL.out.2 rfl⟩,HAL,HBN⟩
   case measure=>simp [intOf];omega
  ·obtain rfl:k=n:=by omega
   have hal:=AL.out
   rw[List.take_of_length_le (by rw[RL.out.1];exact Nat.le_refl _),List.take_of_length_le (by rw[HN.out];exact Nat.le_refl _)] at hal
   have HAL:=Lib.hid hal
   clear hal
   go_wp2_with fail
   go_ret
   exact⟨_,rfl,⟨rows,by rw[HN.out];exact OW.out,HAL.out⟩,BW.out⟩
def QryO (B:Nat) (w:World) (row:List Value) (q:Qry):Prop:=∃ hv av,row=[.string ⟨q.name.toArray⟩,hv,av]/\OwnS B w hv q.head/\∃ rows,w.ownsRow B 105 2 av q.atoms.length (List.flatten rows)/\All2 (AtmO B w) rows q.atoms
theorem QryO.mt {B B':Nat} {w w':World} {row:List Value} {q:Qry} {Ts:List TypeId} (h:QryO B w row q) (hm:MT B' Ts w w') (h1:9 ∉ Ts) (h2:105 ∉ Ts) (h3:113 ∉ Ts):QryO B w' row q:=by
 obtain⟨hv,av,rfl,h4,rows,h5,h6⟩:=h
 exact⟨hv,av,rfl,hm.ownsRow h4 h1,rows,hm.ownsRow h5 h2,h6.mono fun b a hh=>hh.mt hm h3⟩
theorem QryO.len {B:Nat} {w:World} {row:List Value} {q:Qry} (h:QryO B w row q):row.length=3:=by
 obtain⟨hv,av,rfl,_⟩:=h
 rfl
def QrsO (B:Nat) (w:World) (v:Value) (l:List Qry):Prop:=∃ rows:List (List Value),w.ownsRow B 50 3 v l.length rows.flatten/\All2 (QryO B w) rows l
def QrsS (l:List Qry):Prop:=∀ q∈l,q.head.length<=8796093022208/\q.atoms.length<=3518437208780/\∀ a∈q.atoms,a.ts.length<=2932031007317
theorem QrsO.at_ {B:Nat} {w:World} {v:Value} {l:List Qry} (h:QrsO B w v l) (hl:l.length<=8796093022208) (hr:QrsS l):QrysAt w v l:=by
 obtain⟨rows,h1,h2⟩:=h
 have hll:=h2.length
 refine⟨rows,RowAt.ofOwn h1 hll.symm (fun x hx=>?_) (by omega),all2_and h2 fun c x hx hh=>?_⟩
 ·obtain⟨t,_,ht⟩:=all2_mem h2 x hx
  exact ht.len
 ·obtain⟨hv,av,rfl,h3,rws,h4,h5⟩:=hh
  obtain⟨q1,q2,q3⟩:=hr x hx
  exact⟨hv,av,rfl,OwnS.strs h3 q1,atomsRowG h4 rfl h5 (by omega) q3⟩
theorem Tryz.infoQrc:(Tryz.prog.info? 50).map (fun i=>(i.zero,i.size,i.bytes))=some (some (.agg #[.string ⟨#[]⟩,.slice none 0 0,.slice none 0 0]),3,64):=by kernel_rfl
set_option maxHeartbeats 8000000 in
set_option maxRecDepth 100000 in
theorem copyQrys_any (w:World) (v:Value) (l:List Qry) (h:QrysAt w v l) (hn:l.length<=1099511627776) (hrs:QrsS l) :
 Calls Tryz.prog 11 #[v] w fun e w'=>∃ v',e=.returned v'/\QrsO w.heap.size w' v' l/\Below w.heap.size w w':=by
 obtain⟨ic,hic,hc0,hc1,hc2⟩:=info_parts Tryz.infoQrc
 obtain⟨ad,cap,rfl,hnc,hcm⟩:=h.form
 unfold maxLen at hcm
 have HR:=Lib.hid h
 have HRS:=Lib.hid hrs
 clear h hrs
 generalize hN:l.length=n at *
 have HN:=Lib.hid hN
 clear hN
 go_enter Tryz.func11,Tryz.ntmps11
 go_wp2_with (at_make;refine wpList_make_full _ rfl _ _ 24 rfl w.heap.size 50 ic (.agg #[.string ⟨#[]⟩,.slice none 0 0,.slice none 0 0]) 3 Tryz.underlying24 hic hc0 hc1 _ _ _ _ n rfl rfl rfl rfl ?b2 ?b3 ?b4 ?_)
 case b2=>rw[hc2];omega
 case b3=>unfold maxLen;omega
 case b4=>omega
 intro w5 hown5 hgrow5
 obtain⟨rows0,hr0,hr1,hr2⟩:=split_rows 3 n _ hown5.1
 rw[<-hr2] at hown5
 have hb5:Below w.heap.size w w5:=Below.grown (Below.refl _ _) hgrow5 (Nat.le_refl _) (fun q hq=>by cases hq)
 have HO5:=Lib.hid hown5
 have HB5:=Lib.hid hb5
 have HRL:=Lib.hid (And.intro hr0 hr1)
 clear hown5 hgrow5 hb5 hr0 hr1 hr2
 go_wp2_with fail
 go_loopw [10] (fun i wr=>∃ (k:Nat) (rows:List (List Value)),k<=n/\i=.int .i64 k/\Hid (wr.ownsRow w.heap.size 50 3 (.slice (some ⟨w.heap.size,0,none⟩) n n) n rows.flatten)/\Hid (rows.length=n/\∀ x∈rows,x.length=3)/\Hid (All2 (QryO w.heap.size wr) (rows.take k) (l.take k))/\Hid (Below w.heap.size w wr)) (fun i _=>n - (intOf i).toNat)
 case atStart=>exact⟨0,rows0,Nat.zero_le _,rfl,HO5,HRL,Lib.hid trivial,HB5⟩
 case round =>
  obtain⟨k,rows,hk,rfl,OW,RL,AL,BW⟩:=hrel
  obtain⟨wo,rfl⟩:∃ wo:World,wo=wr:=⟨_,rfl⟩
  by_cases hkn:k<n
  ·obtain⟨c,hc⟩:∃ c,l[k]? = some c:=⟨l[k]'(by rw[HN.out];exact hkn),List.getElem?_eq_getElem (by rw[HN.out];exact hkn)⟩
   obtain⟨b,off,cap',hv',av',hv,_,_,hbl,q0,q1,q2,hh,ha⟩:=(HR.out.keep BW.out).get hc
   rw[HN.out] at hv
   simp only[Value.slice.injEq,true_and] at hv
   obtain⟨rfl,rfl⟩:=hv
   have hdk:decide ((k:Int)<0)=false:=by simp
   have hdn:decide ((n:Int)<=(k:Int))=false:=by simp;omega
   have HCR:=Lib.hid (copyO_any wo ⟨c.name.toArray⟩ hv' av' c.head c.atoms hh ha (HRS.out c (List.mem_of_getElem? hc)).2.1)
   obtain⟨xa,xc,rfl,_,_⟩:=hh.form
   obtain⟨ya,yc,rfl,_,_⟩:=ha.form
   have HCC:=Lib.hid hc
   clear hc hh ha
   obtain⟨hn1,hhn⟩:∃ hn1,c.head.length=hn1:=⟨_,rfl⟩
   obtain⟨an1,han⟩:∃ an1,c.atoms.length=an1:=⟨_,rfl⟩
   rw[hhn,han] at HCR
   rw[hhn] at q1
   rw[han] at q2
   have HHN:=Lib.hid (And.intro hhn han)
   clear hhn han
   go_wp2_with fail
   refine HCR.out.mono ?_
   rintro e w6 ⟨ghv,gav,gr,rfl,g1,g2,g3,_,hb6⟩
   obtain⟨ua,uc,rfl⟩:=own_sl g1
   obtain⟨va,vc,rfl⟩:=own_sl g2
   rw[HHN.out.1] at g1 ⊢
   rw[HHN.out.2] at g2 ⊢
   have ho6:=(MT.ofBelow (B:=0) (Ts:=[]) hb6).ownsRow OW.out (by simp)
   have HO6:=Lib.hid ho6
   have HB6:=Lib.hid hb6
   have hq:QryO w.heap.size w6 [.string ⟨c.name.toArray⟩,.slice ua hn1 uc,.slice va an1 vc] c:=⟨_,_,rfl,World.ownsRow.low (show World.ownsRow _ _ _ _ _ _ _ from g1) BW.out.size,gr,World.ownsRow.low (by rw[HHN.out.2];exact g2) BW.out.size,g3.mono fun b a hh=>by
    obtain⟨tv,e,ho⟩:=hh
    exact⟨tv,e,World.ownsRow.low ho BW.out.size⟩⟩
   have HQ:=Lib.hid hq
   clear ho6 hb6 g1 g2 g3 hq HCR
   go_wp2_with (refine wpList_store_elem rfl 50 _ _ rfl w.heap.size k 50 3 w.heap.size n n rows _ rfl rfl HO6.out RL.out.2 RL.out.1 hkn rfl (by kernel_rfl) (by simp [Value.oneCell']) ?_)
   intro w7 h7 m7 z7
   have hmt:=mt_own (Ts:=[50]) m7 HO6.out (by simp)
   have hall:All2 (QryO w.heap.size w7) ((rows.set k [.string ⟨c.name.toArray⟩,.slice ua hn1 uc,.slice va an1 vc]).take (k+1)) (l.take (k+1)):=by
    rw[set_take (by rw[RL.out.1];exact hkn),List.take_add_one (l:=l),HCC.out]
    exact All2.snoc (HQ.out.mt hmt (by decide) (by decide) (by decide)) (AL.out.mono fun q a hh=>(hh.mt (MT.ofBelow (B:=0) (Ts:=[]) HB6.out) (by simp) (by simp) (by simp)).mt hmt (by decide) (by decide) (by decide))
   have HS:=Lib.hid h7
   have HAL:=Lib.hid hall
   have HBN:=Lib.hid (Mod.own (BW.out.trans (HB6.out.mono BW.out.size)) m7 (Nat.le_refl _))
   clear h7 m7 z7 hmt hall q0 q1 q2
   go_wp2_with fail
   go_roundw
   case rel=>exact⟨k+1,_,by omega,by go_num,HS,Lib.hid ⟨by rw[List.length_set];exact RL.out.1,set_all RL.out.2 rfl⟩,HAL,HBN⟩
   case measure=>simp [intOf];omega
  ·obtain rfl:k=n:=by omega
   have hal:=AL.out
   rw[List.take_of_length_le (by rw[RL.out.1];exact Nat.le_refl _),List.take_of_length_le (by rw[HN.out];exact Nat.le_refl _)] at hal
   have HAL:=Lib.hid hal
   clear hal
   go_wp2_with fail
   go_ret
   exact⟨_,rfl,⟨rows,by rw[HN.out];exact OW.out,HAL.out⟩,BW.out⟩
end Go.Proofs.YtgopfpjinohncaaGreatDoor
