/- schema.All, osierref08.Add, osierlaw08.sameAll, walked. base.Base.Relations, Tables of a base with one relation of one row; walked (printed by mkstd.py). -/
import Derived.Test.YtgopfpjinohncaaGreatDoorApZL
import Derived.Test.YtgopfpjinohncaaGreatDoorCyL
import Derived.Test.YtgopfpjinohncaaGreatDoorCiL
import Derived.Test.YtgopfpjinohncaaGreatDoorKfL
import Derived.Test.YtgopfpjinohncaaGreatDoorStaZL
import Derived.Test.YtgopfpjinohncaaGreatDoorSt2ZL
import Derived.Deep.RegionLaw
import Derived.BigQuiet
namespace Go.Proofs.YtgopfpjinohncaaGreatDoor
open Go.RowKit
set_option linter.unusedVariables false
set_option maxHeartbeats 8000000 in
set_option maxRecDepth 100000 in
theorem sall_any {Q:Nat->Prop} (w:World) (b:Nat) (m:Int) (d:List Rln) (h:SchAt Q w b m d) :
 Calls Tryz.prog 108 #[.pointer (some ⟨b,0,none⟩)] w fun e w'=>∃ a cp,e=.returned (.slice a d.length cp)/\RelsNew w.heap.size w' (.slice a d.length cp) d/\Below w.heap.size w w':=by
 obtain⟨ic,hic,hc0,hc1,hc2⟩:=info_parts Tryz.infoRl
 obtain⟨sv,hb,ho,hs⟩:=h
 have hat:=hs.at ho
 have hd8:=hs.1
 have hd5:=hs.2
 obtain⟨ad,cap,rfl,hnc,hcm⟩:=hat.form
 unfold maxLen at hcm
 have hx1:=hb.cell 1
 have hxl:=hb.lt
 simp only[List.getElem?_toArray,List.getElem?_cons_zero,List.getElem?_cons_succ] at hx1
 have HR:=Lib.hid hat
 have HBB:=Lib.hid hb
 have H5:=Lib.hid hd5
 clear hb ho hs hat hd5
 generalize hN:d.length=n at *
 have HN:=Lib.hid hN
 clear hN
 go_enter Tryz.func108,Tryz.ntmps108
 go_wp2_with (at_make;refine wpList_make_full _ rfl _ _ 22 rfl w.heap.size 57 ic (.agg #[.string ⟨#[]⟩,.slice none 0 0]) 2 Tryz.underlying22 hic hc0 hc1 _ _ _ _ n rfl rfl rfl rfl ?b2 ?b3 ?b4 ?_)
 case b2=>first | omega | (rw[hc2];omega)
 case b3=>unfold maxLen;omega
 try (case b4=>omega)
 intro w5 hown5 hgrow5
 obtain⟨rows0,hr0,hr1,hr2⟩:=split_rows 2 n _ hown5.1
 rw[<-hr2] at hown5
 have hb5:Below w.heap.size w w5:=Below.grown (Below.refl _ _) hgrow5 (Nat.le_refl _) (fun q hq=>by cases hq)
 have hy:=HBB.out.below hb5 HBB.out.lt
 have y1:=hy.cell 1
 have yl:=hy.lt
 simp only[List.getElem?_toArray,List.getElem?_cons_zero,List.getElem?_cons_succ] at y1
 have HO5:=Lib.hid hown5
 have HB5:=Lib.hid hb5
 have HRL:=Lib.hid (And.intro hr0 hr1)
 clear hown5 hgrow5 hb5 hr0 hr1 hr2 hy hx1 hxl
 go_wp2_with fail
 clear y1 yl
 go_loopw [17] (fun i wr=>∃ (k:Nat) (rows:List (List Value)),k<=n/\i=.int .i64 k/\Hid (wr.ownsRow w.heap.size 57 2 (.slice (some ⟨w.heap.size,0,none⟩) n n) n rows.flatten)/\Hid (rows.length=n/\∀ x∈rows,x.length=2)/\Hid (All2 (RelO (fun q=>w.heap.size<q) wr) (rows.take k) (d.take k))/\Hid (Below w.heap.size w wr)) (fun i _=>n - (intOf i).toNat)
 case atStart=>exact⟨0,rows0,Nat.zero_le _,rfl,HO5,HRL,Lib.hid trivial,HB5⟩
 case round =>
  obtain⟨k,rows,hk,rfl,OW,RL,AL,BW⟩:=hrel
  obtain⟨wo,rfl⟩:∃ wo:World,wo=wr:=⟨_,rfl⟩
  by_cases hkn:k<n
  ·obtain⟨c,hc⟩:∃ c,d[k]? = some c:=⟨d[k]'(by rw[HN.out];exact hkn),List.getElem?_eq_getElem (by rw[HN.out];exact hkn)⟩
   obtain⟨rb,off,cap',cv,hv,_,_,hbl,q0,q1,hrow,hrl⟩:=(HR.out.keep BW.out).get hc
   rw[HN.out] at hv
   simp only[Value.slice.injEq,true_and] at hv
   obtain⟨rfl,rfl⟩:=hv
   obtain⟨ra,rc,rfl,_,_⟩:=hrow.form
   have hdk:decide ((k:Int)<0)=false:=by simp
   have hdn:decide ((n:Int)<=(k:Int))=false:=by simp;omega
   have hbk:Below wo.heap.size wo (wo.alloc (.cells #[.string ⟨c.name.toArray⟩,.slice ra c.cols.length rc] 57)):=balloc (Below.refl _ _) _
   have hcr:=sclone_any (wo.alloc (.cells #[.string ⟨c.name.toArray⟩,.slice ra c.cols.length rc] 57)) ⟨c.name.toArray⟩ (.slice ra c.cols.length rc) c.cols (hrow.keep hbk) hrl
   have HCR:=Lib.hid hcr
   have HCC:=Lib.hid hc
   have HBK:=Lib.hid hbk
   have hbw:=BW.out.size
   have hgo:w.heap.size<wo.heap.size:=(World.ownsRow.lt OW.out w.heap.size rfl).2
   clear hc hrow hcr hbk
   generalize hCN:c.cols.length=rn at *
   have HCN:=Lib.hid hCN
   clear hCN
   go_wp2_with fail
   refine HCR.out.mono ?_
   rintro e w6 ⟨u6,rfl,hown6,hb6⟩
   have hlow:w6.ownsRow 0 109 2 u6 c.cols.length (c.cols.flatMap Col.cells):=World.ownsRow.low hown6 (Nat.zero_le _)
   have hq6:∀ q,u6.ownBlock=some q->w.heap.size<q:=fun q hq=>by
    have:=(World.ownsRow.lt (show World.ownsRow _ _ _ _ _ _ _ from hown6) q hq).1
    simp at this
    omega
   obtain⟨ua,uc,rfl⟩:=own_sl (show World.ownsRow _ _ _ _ _ _ _ from hown6)
   have hb66:=bt2 HBK.out hb6
   have o6:=(MT.ofBelow (B:=0) (Ts:=[]) hb66).ownsRow OW.out (by simp)
   have HO6:=Lib.hid o6
   have HW6:=Lib.hid hlow
   have HQ6:=Lib.hid hq6
   have HB6:=Lib.hid hb66
   clear o6 hown6 hb6 hlow hq6 hb66
   rw[HCN.out] at HW6 HQ6 ⊢
   go_wp2_with (refine wpList_store_elem rfl 57 _ _ rfl w.heap.size k 57 2 w.heap.size n n rows _ rfl rfl HO6.out RL.out.2 RL.out.1 hkn rfl (by kernel_rfl) (by simp [Value.oneCell']) ?_)
   intro w7 h7 m7 z7
   have hall:∀ W',Mod (fun j=>j=w.heap.size) w6 W'->All2 (RelO (fun q=>w.heap.size<q) W') ((rows.set k [.string ⟨c.name.toArray⟩,.slice ua rn uc]).take (k+1)) (d.take (k+1)):=by
    intro W' m6
    rw[set_take (by rw[RL.out.1];exact hkn),List.take_add_one,HCC.out]
    refine All2.snoc ⟨_,rfl,?_,fun q hq=>HQ6.out q hq⟩ (AL.out.mono fun q a hh=>(hh.mod (Mod.ofBelow (F:=fun _=>False) HB6.out) (fun _ _ f=>f)).mod m6 (fun q hq=>by omega))
    show World.ownsRow _ _ _ _ _ _ _
    rw[HCN.out]
    exact m6.ownsRow HW6.out (fun q hq=>by have:=HQ6.out q hq;omega)
   have HS:=Lib.hid h7
   have HAL:=Lib.hid (hall _ m7)
   have HB7:=Lib.hid (Mod.own (BW.out.trans (HB6.out.mono hbw)) m7 (Nat.le_refl _))
   clear h7 m7 z7 hall
   go_wp2_with fail
   go_roundw
   case rel=>exact⟨k+1,_,by omega,by go_num,HS,Lib.hid ⟨by rw[List.length_set];exact RL.out.1,set_all RL.out.2 rfl⟩,HAL,HB7⟩
   case measure=>simp [intOf];omega
  ·obtain rfl:k=n:=by omega
   have hal:=AL.out
   rw[List.take_of_length_le (by rw[RL.out.1];exact Nat.le_refl _),List.take_of_length_le (by rw[HN.out];exact Nat.le_refl _)] at hal
   have HAL:=Lib.hid hal
   clear hal
   go_wp2_with fail
   go_ret
   exact⟨_,_,rfl,⟨rows,by rw[HN.out];exact World.ownsRow.low OW.out (Nat.zero_le _),fun q hq=>by simp [Value.ownBlock] at hq;omega,HAL.out.mono fun b a hh=>hh.mono fun q _ hq=>Nat.le_of_lt hq⟩,BW.out⟩
theorem Tryz.infoTb:(Tryz.prog.info? 47).map (fun i=>(i.zero,i.size,i.bytes))=some (some (.agg #[.string ⟨#[]⟩,.slice none 0 0]),2,40):=by kernel_rfl
set_option maxRecDepth 100000 in
set_option maxHeartbeats 2000000 in
theorem relations_any {Q:Nat->Prop} (w:World) (bb ss mb:Nat) (d:List Rln) (hB:BaseB w bb ss mb) (hS:SchAt Q w ss 8 d) :
 Calls Tryz.prog 43 #[.pointer (some ⟨bb,0,none⟩)] w fun e w'=>∃ a cp,e=.returned (.slice a d.length cp)/\RelsNew w.heap.size w' (.slice a d.length cp) d/\Below w.heap.size w w':=by
 have H:=Lib.hid (sall_any w ss 8 d hS)
 have x0:=Blk.cell hB 0
 have xl:=Blk.lt hB
 simp only[List.getElem?_toArray,List.getElem?_cons_zero] at x0
 clear hB hS
 go_enter Tryz.func43,Tryz.ntmps43
 go_wp2_with fail
 refine H.out.mono ?_
 rintro e w1 ⟨a,cp,rfl,hr,hb⟩
 have HR:=Lib.hid hr
 have HB:=Lib.hid hb
 clear hr hb
 go_wp2_with fail
 go_ret
 exact⟨_,_,rfl,HR.out,HB.out⟩
set_option maxRecDepth 100000 in
set_option maxHeartbeats 8000000 in
theorem tables0 {Q:Nat->Prop} (w:World) (B bb ss mb st a1 m1 h1 a2 m2 c1 c:Nat) (mk:Bool) (u:Value) (nm:ByteArray) (ka:Option Addr) (kc:Nat) (hkc:kc<=maxLen) (hB:BaseB w bb ss mb) (hS:SchAt Q w ss 8 [⟨nm.data.toList,[]⟩])
 (hM:MapB w mb #[{ key:=.string nm,val:=.pointer (some ⟨st,0,none⟩),born:=0 }] c) (hs:Blk w st 326 #[.int .i64 0,.int .i64 512,.int .i64 1,.slice none 0 0,.pointer (some ⟨a1,0,none⟩),.map (some m1),.pointer (some ⟨h1,0,none⟩),.slice none 0 0,.pointer (some ⟨a2,0,none⟩),.map (some m2),.pointer (some ⟨c1,0,none⟩),.bool mk,u]) (hr:HasRow B w a1 m1 c1 (.slice ka 0 kc)) :
 Calls Tryz.prog 44 #[.pointer (some ⟨bb,0,none⟩)] w fun e w'=>∃ g cap ra rc,e=.returned (.slice (some ⟨g,0,none⟩) 1 cap)/\w'.cell? ⟨g,1,none⟩=some (.slice ra 1 rc)/\g<w'.heap.size/\1<=cap/\Below w.heap.size w w':=by
 obtain⟨it,hit,hf0,hf1,hf2⟩:=info_parts Tryz.infoTb
 have HA:=Lib.hid (sall_any w ss 8 _ hS)
 have HB:=Lib.hid (show Blk w bb 175 #[.pointer (some ⟨ss,0,none⟩),.int .i64 512,.map (some mb)] from hB)
 have HM:=Lib.hid hM
 have HS:=Lib.hid hs
 have HR:=Lib.hid hr
 have x0:=Blk.cell hB 0
 have xl:=Blk.lt hB
 simp only[List.getElem?_toArray,List.getElem?_cons_zero] at x0
 clear hB hS hM hs hr
 go_enter Tryz.func44,Tryz.ntmps44
 go_wp2_with fail
 refine HA.out.mono ?_
 rintro e w1 ⟨a,cp,rfl,hrel,hb1⟩
 simp only[List.length_cons,List.length_nil,Nat.zero_add]
 obtain⟨b,off,cap',cv,hv,hc1,hc2,hbl,q0,q1,hrow,_⟩:=(RelsOwn.at hrel (by simp) (by simp)).get (i:=0) rfl
 obtain⟨ca,cc,rfl,_,_⟩:=hrow.form
 simp only[List.length_cons,List.length_nil,Nat.zero_add,Nat.zero_mul,Nat.add_zero,Value.slice.injEq,true_and] at hv hc1 q0 q1
 clear hrow
 obtain⟨rfl,rfl⟩:=hv
 have hnm:(⟨nm.data.toList.toArray⟩:ByteArray)=nm:=by simp
 rw[hnm] at q0
 have HB1:=Lib.hid hb1
 clear hb1 hrel HA x0 xl hnm
 go_wp2_with fail
 refine wp_loop_rounds 2 ?_
 rw[rounds_succ]
 obtain⟨x,hx⟩:∃ x,w1.heap.size=x:=⟨_,rfl⟩
 have h2:Below w.heap.size w (w1.alloc (.cells #[.string nm,.slice ca 0 cc] 57)):=balloc HB1.out _
 have hX:Blk (w1.alloc (.cells #[.string nm,.slice ca 0 cc] 57)) x 57 #[.string nm,.slice ca 0 cc]:=hx ▸ Blk.new _ _ _
 go_upto_region 5 with fail
 obtain⟨w2,hw2⟩:∃ w2,w1.alloc (.cells #[.string nm,.slice ca 0 cc] 57)=w2:=⟨_,rfl⟩
 rw[hw2] at h2 hX ⊢
 have HX2:=Lib.hid hX
 have H2:=Lib.hid h2
 have HB2:=Lib.hid (HB.out.below h2 HB.out.lt)
 have hlk:=lk_str (P:=Tryz.prog) (w:=w2.drew) 173 9 183 mb c 0 nm (.pointer (some ⟨st,0,none⟩)) (by kernel_rfl) (by kernel_rfl) (HM.out.mod (Mod.ofBelow (F:=fun _=>False) h2) (fun f=>f)).drew
 clear h2 hX hx hw2 q0 q1 hc1 hc2 hbl HB1
 obtain⟨SS,hSS⟩:∃ SS:World->Prop,SS=fun W=>Blk W bb 175 #[.pointer (some ⟨ss,0,none⟩),.int .i64 512,.map (some mb)]/\Blk W x 57 #[.string nm,.slice ca 0 cc]:=⟨_,rfl⟩
 have HSC:Hid (∀ W,SS W->W.cell? ⟨bb,2,none⟩=some (.map (some mb))/\W.cell? ⟨x,0,none⟩=some (.string nm)/\bb<W.heap.size/\x<W.heap.size):=Lib.hid (fun W q=>by
  rw[hSS] at q
  obtain⟨r0,r1⟩:=q
  exact⟨(r0.cell 2).trans rfl,(r1.cell 0).trans rfl,r0.lt,r1.lt⟩)
 have HSI:Hid (∀ W,Blk W bb 175 #[.pointer (some ⟨ss,0,none⟩),.int .i64 512,.map (some mb)]/\Blk W x 57 #[.string nm,.slice ca 0 cc]->SS W):=Lib.hid (fun W q=>by rw[hSS];exact q)
 clear hSS
 have HSS:SS w2.drew:=HSI.out _ (⟨HB2.out.drew,HX2.out.drew⟩)
 refine wp_region_held_drew (by kernel_rfl) HSS (fun _=>?_)
 refine Held.tk 0 16 HSS ?_
 refine Held.tk 1 17 HSS ?_
 refine Held.tk 2 18 HSS ?_
 refine Held.tk 3 19 HSS ?_
 refine Held.tk 4 20 HSS ?_
 refine Held.tk 5 21 HSS ?_
 refine Held.tk 6 22 HSS ?_
 refine Held.on 7 (fun K hK=>?_)
 go_simp
 refine hK.out _ _ HSS ?_
 clear hK K
 try simp only[List.setIfInBounds_toArray,List.set_cons_succ,List.set_cons_zero]
 refine Held.on 8 (fun K hK=>?_)
 have q:=HSC.out _ HSS
 repeat (obtain⟨_,q⟩:=q)
 go_simp
 refine hK.out _ _ HSS ?_
 clear hK K
 clear q
 try simp only[List.setIfInBounds_toArray,List.set_cons_succ,List.set_cons_zero]
 refine Held.on 9 (fun K hK=>?_)
 go_simp
 refine hK.out _ _ HSS ?_
 clear hK K
 try simp only[List.setIfInBounds_toArray,List.set_cons_succ,List.set_cons_zero]
 refine Held.on 10 (fun K hK=>?_)
 go_simp
 have b2:Below w.heap.size w w2.drew:=bdrew H2.out
 refine (rows0 w2.drew B st a1 m1 h1 a2 m2 c1 mk u ka kc hkc (HS.out.below b2 HS.out.lt) (HR.out.keep b2)).mono ?_
 rintro e w3 ⟨⟨ra,rc,rfl⟩,hb⟩
 have H3:=Lib.hid (bt2 b2 hb)
 clear HSS
 have HSS:=HSI.out w3 ⟨HB2.out.drew.below hb HB2.out.lt,HX2.out.drew.below hb HX2.out.lt⟩
 have HB3:=Lib.hid (HB2.out.drew.below hb HB2.out.lt)
 have HX3:=Lib.hid (HX2.out.drew.below hb HX2.out.lt)
 refine hK.out _ _ HSS ?_
 clear hK K hb b2 H2 HB2 HX2 hlk
 try simp only[List.setIfInBounds_toArray,List.set_cons_succ,List.set_cons_zero]
 refine Held.on 11 (fun K hK=>?_)
 go_simp
 refine hK.out _ _ HSS ?_
 clear hK K
 try simp only[List.setIfInBounds_toArray,List.set_cons_succ,List.set_cons_zero]
 refine Held.on 12 (fun K hK=>?_)
 go_simp
 have hn4:=World.news_of_block (Blk.new w3 47 #[.string nm,.slice ra 1 rc])
 have b4:Below w3.heap.size w3 (w3.alloc (.cells #[.string nm,.slice ra 1 rc] 47)):=balloc (Below.refl _ _) _
 obtain⟨w4,hw4⟩:∃ w4,w3.alloc (.cells #[.string nm,.slice ra 1 rc] 47)=w4:=⟨_,rfl⟩
 rw[hw4] at hn4 b4 ⊢
 have HN4:=Lib.hid hn4
 have H4:=Lib.hid (bt2 H3.out b4)
 clear HSS
 have HSS:=HSI.out w4 ⟨HB3.out.below b4 HB3.out.lt,HX3.out.below b4 HX3.out.lt⟩
 have HB4:=Lib.hid (HB3.out.below b4 HB3.out.lt)
 have HX4:=Lib.hid (HX3.out.below b4 HX3.out.lt)
 refine hK.out _ _ HSS ?_
 clear hK K hn4 b4 hw4 H3 HB3 HX3
 try simp only[List.setIfInBounds_toArray,List.set_cons_succ,List.set_cons_zero]
 refine Held.on 13 (fun K hK=>?_)
 refine step_append_lies _ rfl (.tmp 16) (.tmp 28) 23 rfl w.heap.size 47 it (.agg #[.string ⟨#[]⟩,.slice none 0 0]) 2 40 Tryz.underlying23 hit hf0 hf1 hf2 rfl (by decide) (.slice none 0 0) 0 [] rfl (World.ownsRow_nil _ _ _ _) ⟨_,0,none⟩ 1 1 [.string nm,.slice ra 1 rc] rfl rfl HN4.out (by simp [Value.oneCell']) (by decide) (by unfold maxLen;omega) (by omega) H4.out.size _ rfl ?_
 intro g5 cap5 w5 hown5 hgrow5 hat5 hlt5
 have b5:Below w4.heap.size w4 w5:=(Below.refl _ w4).grown hgrow5 (Nat.le_refl _) (fun q hq=>by cases hq)
 have H5:=Lib.hid (bt2 H4.out b5)
 have HO5:=Lib.hid hown5
 clear HSS
 have HSS:=HSI.out w5 ⟨HB4.out.below b5 HB4.out.lt,HX4.out.below b5 HX4.out.lt⟩
 refine hK.out _ _ HSS ?_
 clear hK K hown5 hgrow5 hat5 hlt5 b5 H4 HB4 HX4 HN4
 simp only[Act.put,List.getElem_toArray,List.getElem_cons_succ,List.getElem_cons_zero,List.setIfInBounds_toArray,List.set_cons_succ,List.set_cons_zero]
 try simp only[List.setIfInBounds_toArray,List.set_cons_succ,List.set_cons_zero]
 refine Held.tk 14 3 HSS ?_
 refine wpAnyH_done (by kernel_rfl) ?_ _
 clear HSS HSC HSI
 go_wp2_with fail
 rw[rounds_succ]
 go_wp2_with fail
 go_ret
 have c1':=HO5.out.cellAt 1 (by simp)
 have gl:=HO5.out.lt g5 rfl
 have hcap:1<=cap5:=by
  rcases HO5.out.2 with ⟨e,_⟩ | ⟨g',cap',cur,e,_,_,q,_⟩
  ·cases e
  ·simp only[Value.slice.injEq] at e
   omega
 exact⟨g5,cap5,ra,rc,rfl,by simpa using c1',gl.2,hcap,H5.out⟩
end Go.Proofs.YtgopfpjinohncaaGreatDoor
