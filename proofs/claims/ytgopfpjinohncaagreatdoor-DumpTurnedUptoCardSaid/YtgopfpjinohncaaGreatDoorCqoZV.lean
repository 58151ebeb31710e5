/- osierref09.Copy, walked: the copy's rows are the call's own, and apart (turned out of Cq by program). Rows, tables and queries copied by the document's code and the law's; walked (printed by mkdcp.py). -/
import Derived.Test.YtgopfpjinohncaaGreatDoorDpV
import Derived.Test.YtgopfpjinohncaaGreatDoorRaV
import Derived.Test.YtgopfpjinohncaaGreatDoorShelfRZV
import Derived.Test.YtgopfpjinohncaaGreatDoorGmV
import Derived.Test.YtgopfpjinohncaaGreatDoorSkgZV
import Derived.Deep.Cut
import Derived.Deep.CutRange
import Derived.Deep.RegionLaw
namespace Go.Proofs.YtgopfpjinohncaaGreatDoor
open Go.RowKit
set_option linter.unusedVariables false
def tvOf (x:List Value):Value:=x.getD 1 undef
def Aprt (rows:List (List Value)):Prop:=rows.Pairwise fun x y=>∀ k,(tvOf x).ownBlock=some k->(tvOf y).ownBlock≠some k
theorem Aprt.snoc {B b0:Nat} {w:World} {rows:List (List Value)} {al:List Atm} {x:List Value} (h:Aprt rows) (ha:All2 (AtmO B w) rows al) (hx:∀ k,(tvOf x).ownBlock=some k->w.heap.size<=k):Aprt (rows++[x]):=by
 refine List.pairwise_append.2 ⟨h,List.pairwise_singleton _ _,fun a hm b hb k hk=>?_⟩
 rw[List.mem_singleton] at hb
 subst hb
 intro hk2
 have h1:=hx k hk2
 obtain⟨at',_,tv,rfl,ho⟩:=all2_mem ha a hm
 have h2:=(World.ownsRow.lt ho k hk).2
 omega
def CopyO (w:World) (name:ByteArray) (hd:List (List UInt8)) (al:List Atm) (e:Ending) (w':World):Prop :=
 ∃ hv av rows,e=.returned (.agg #[.string name,hv,av])/\OwnS w.heap.size w' hv hd/\w'.ownsRow w.heap.size 105 2 av al.length rows.flatten/\All2 (AtmO w.heap.size w') rows al/\Aprt rows/\Below w.heap.size w w'
set_option maxHeartbeats 8000000 in
set_option maxRecDepth 100000 in
theorem copyO_any (w:World) (name:ByteArray) (hv av:Value) (hd:List (List UInt8)) (al:List Atm) (h1:StrsAt w hv hd) (h2:AtomsAt w av al) (hn:al.length<=3518437208780) :
 Calls Tryz.prog 30 #[.agg #[.string name,hv,av]] w (CopyO w name hd al):=by
 obtain⟨ia,hia,ha0,ha1,ha2⟩:=info_parts Tryz.infoAtm
 obtain⟨ad,cap,rfl,hnc,hcm⟩:=h2.form
 obtain⟨hh,hc,rfl,hhc,hhm⟩:=h1.form
 unfold maxLen at hcm
 have HR:=Lib.hid h2
 have HS:=Lib.hid h1
 generalize hN:al.length=n at *
 have HN:=Lib.hid hN
 have bx:=(Blk.new w 50 #[.string name,.slice hh hd.length hc,.slice ad n cap]).alloc (.cells #[.string ⟨#[]⟩,.slice none 0 0,.slice none 0 0] 50)
 have br:=blkNew1 w (.cells #[.string name,.slice hh hd.length hc,.slice ad n cap] 50) 50 #[.string ⟨#[]⟩,.slice none 0 0,.slice none 0 0]
 have b0:Below w.heap.size w ((w.alloc (.cells #[.string name,.slice hh hd.length hc,.slice ad n cap] 50)).alloc (.cells #[.string ⟨#[]⟩,.slice none 0 0,.slice none 0 0] 50)):=balloc (balloc (Below.refl _ _) _) _
 have HTX:=Lib.hid (fun W (hb:Below w.heap.size w W)=>textsC_any W _ hd (h1.keep hb))
 have BX:=Lib.hid bx
 have BR:=Lib.hid br
 have B0:=Lib.hid b0
 clear h1 h2 hN bx br b0
 go_enter Tryz.func30,Tryz.ntmps30
 go_wp2_with fail
 have x0:=BX.out.cell 0
 have x1:=BX.out.cell 1
 have x2:=BX.out.cell 2
 simp only[List.getElem?_toArray,List.getElem?_cons_zero,List.getElem?_cons_succ] at x0 x1 x2
 have hxl:=BX.out.lt
 have hzs:(((w.alloc (.cells #[.string name,.slice hh hd.length hc,.slice ad n cap] 50)).alloc (.cells #[.string ⟨#[]⟩,.slice none 0 0,.slice none 0 0] 50)).drew).heap.size=w.heap.size+1+1:=by simp
 have zz:=Blk.new (((w.alloc (.cells #[.string name,.slice hh hd.length hc,.slice ad n cap] 50)).alloc (.cells #[.string ⟨#[]⟩,.slice none 0 0,.slice none 0 0] 50)).drew) 50 #[.string ⟨#[]⟩,.slice none 0 0,.slice none 0 0]
 rw[hzs] at zz
 have Z:=Lib.hid zz
 clear zz hzs
 have hz2:((w.alloc (.cells #[.string name,.slice hh hd.length hc,.slice ad n cap] 50)).alloc (.cells #[.string ⟨#[]⟩,.slice none 0 0,.slice none 0 0] 50)).heap.size=w.heap.size+1+1:=by simp
 go_cut [3] from 5 to 10 (fun s3 wx=>∃ (y:Nat) (va:Option Addr) (vc:Nat),s3=.pointer (some ⟨y,0,none⟩)/\Hid (OwnS w.heap.size wx (.slice va hd.length vc) hd)/\Hid (Blk wx y 50 #[.string name,.slice va hd.length vc,.slice none 0 0])/\Hid (Blk wx w.heap.size 50 #[.string name,.slice hh hd.length hc,.slice ad n cap])/\Hid (Blk wx (w.heap.size+1) 50 #[.string ⟨#[]⟩,.slice none 0 0,.slice none 0 0])/\Hid (Below w.heap.size w wx)/\w.heap.size+2<=y)
 case first =>
  go_region_law (first
   | (go_simp;go_at_call 17;refine (HTX.out _ (balloc (bdrew B0.out) (.cells #[.string ⟨#[]⟩,.slice none 0 0,.slice none 0 0] 50))).mono ?_;rintro e w1 ⟨v1,rfl,hown1,hb1⟩;obtain⟨va,vc,rfl⟩:=own_sl (show World.ownsRow _ _ _ _ _ _ _ from hown1);have zb:=Z.out.below hb1 (by simp);have z0:=zb.cell 0;have z1:=zb.cell 1;have z2:=zb.cell 2;have f0:=zb.frozen 0;have f1:=zb.frozen 1;have f2:=zb.frozen 2;have zl:=zb.lt;have xb:=(BX.out.drew.alloc (.cells #[.string ⟨#[]⟩,.slice none 0 0,.slice none 0 0] 50)).below hb1 (by simp<;>omega);have rb:=(BR.out.drew.alloc (.cells #[.string ⟨#[]⟩,.slice none 0 0,.slice none 0 0] 50)).below hb1 (by simp<;>omega);have y0:=xb.cell 0;have yl:=xb.lt;have bw:=(balloc (bdrew B0.out) (.cells #[.string ⟨#[]⟩,.slice none 0 0,.slice none 0 0] 50)).trans (hb1.mono (by simp<;>omega));have hlow:=World.ownsRow.low (show World.ownsRow _ _ _ _ _ _ _ from hown1) (show w.heap.size<=_ by simp<;>omega);simp only[List.getElem?_toArray,List.getElem?_cons_zero,List.getElem?_cons_succ] at z0 z1 z2 y0;have HZB:=Lib.hid zb;have HXB:=Lib.hid xb;have HRB:=Lib.hid rb;have HBW:=Lib.hid bw;have HLW:=Lib.hid hlow;clear zb xb rb bw hlow hown1 hb1)
   | (go_simp;go_at_call 17;refine (HTX.out _ (bdrew B0.out)).mono ?_;rintro e w1 ⟨v1,rfl,hown1,hb1⟩;obtain⟨va,vc,rfl⟩:=own_sl (show World.ownsRow _ _ _ _ _ _ _ from hown1);have xb:=BX.out.drew.below hb1 (by simp<;>omega);have rb:=BR.out.drew.below hb1 (by simp<;>omega);have y0:=xb.cell 0;have yl:=xb.lt;simp only[List.getElem?_toArray,List.getElem?_cons_zero] at y0;have bw:=(bdrew B0.out).trans (hb1.mono (by simp<;>omega));have hlow:=World.ownsRow.low (show World.ownsRow _ _ _ _ _ _ _ from hown1) (show w.heap.size<=_ by simp<;>omega);have hgz:=hb1.size;simp at hgz;have HXB:=Lib.hid xb;have HRB:=Lib.hid rb;have HBW:=Lib.hid bw;have HLW:=Lib.hid hlow;clear xb rb bw hlow hown1 hb1))
  all_goals
   go_wp2_with fail
   go_meet
   first
    | (have hs3:=set3_facts (a:=.string name) (b:=.slice va hd.length vc) (c:=.slice none 0 0) HZB.out
       exact⟨_,_,_,rfl,Lib.hid (hs3.2.1.ownsRow HLW.out (by decide)),Lib.hid hs3.1,Lib.hid (hs3.2.2.1 _ _ _ (by omega) HXB.out),Lib.hid (hs3.2.2.1 _ _ _ (by omega) HRB.out),Lib.hid (hs3.2.2.2 _ _ (by omega) HBW.out),by omega⟩)
    | exact⟨_,_,_,rfl,Lib.hid ((Mod.ofBelow (F:=fun _=>False) (balloc (Below.refl _ _) _)).ownsRow HLW.out (fun _ _ f=>f)),Lib.hid (Blk.new _ _ _),Lib.hid (HXB.out.alloc _),Lib.hid (HRB.out.alloc _),Lib.hid (balloc HBW.out _),by omega⟩
 case rest =>
  obtain⟨y,va,vc,rfl,HOS,HY,HX,HRB,HB,hy⟩:=hcut
  go_wp2_with fail
  go_loopw [4] (fun i wr=>∃ (k:Nat) (jv:Value) (rows:List (List Value)),k<=n/\i=.int .i64 k/\Hid (wr.ownsRow w.heap.size 105 2 jv k rows.flatten)/\Hid (All2 (AtmO w.heap.size wr) rows (al.take k)/\Aprt rows)/\Hid (OwnS w.heap.size wr (.slice va hd.length vc) hd)/\Hid (Blk wr y 50 #[.string name,.slice va hd.length vc,jv])/\Hid (Blk wr w.heap.size 50 #[.string name,.slice hh hd.length hc,.slice ad n cap])/\Hid (Blk wr (w.heap.size+1) 50 #[.string ⟨#[]⟩,.slice none 0 0,.slice none 0 0])/\Hid (Below w.heap.size w wr)) (fun i _=>n - (intOf i).toNat)
  case atStart=>exact⟨0,.slice none 0 0,[],Nat.zero_le _,rfl,Lib.hid (World.ownsRow_nil _ _ _ _),Lib.hid ⟨trivial,List.Pairwise.nil⟩,HOS,HY,HX,HRB,HB⟩
  case round =>
   obtain⟨k,jv,rows,hk,rfl,HJ,HA,HOS,HY,HX,HRB,HB⟩:=hrel
   obtain⟨ja,jc,rfl⟩:=own_sl HJ.out
   have x2:=HX.out.cell 2
   have y2:=HY.out.cell 2
   simp only[List.getElem?_toArray,List.getElem?_cons_zero,List.getElem?_cons_succ] at x2 y2
   have hxl:=HX.out.lt
   have hyl:=HY.out.lt
   by_cases hlt:k<n
   ·obtain⟨a,ha⟩:∃ a,al[k]? = some a:=⟨al[k]'(by rw[HN.out];exact hlt),List.getElem?_eq_getElem (by rw[HN.out];exact hlt)⟩
    obtain⟨b,off,cap',tv,hv',_,_,hbl,g0,g1,hrow,hal⟩:=(HR.out.keep HB.out).get ha
    rw[HN.out] at hv'
    simp only[Value.slice.injEq,true_and] at hv'
    obtain⟨rfl,rfl⟩:=hv'
    obtain⟨ta,tc,rfl,_,_⟩:=hrow.form
    have hd1:decide ((k:Int)<0)=false:=by simp
    have hd2:decide ((n:Int)<=(k:Int))=false:=by simp;omega
    simp only[List.length_map] at g1 hrow
    have hca:=copyAtom_any wr.drew ⟨a.rel.toArray⟩ (.slice ta a.ts.length tc) a.ts (hrow.keep (bdrew (Below.refl _ _))) hal
    have HCA:=Lib.hid hca
    have HAT:=Lib.hid ha
    clear hca hrow ha
    go_wp2_with fail
    go_region_law (first
     | (go_simp;go_at_call 78;refine HCA.out.mono ?_;rintro e w6 ⟨tv6,rfl,hown6,hb6⟩;obtain⟨va6,vc6,rfl⟩:=own_sl hown6;have m6:MT 0 [] wr w6:=(MT.refl wr).drew.trans (MT.ofBelow hb6);have yb:=HY.out.mt m6 (by simp);have y26:=yb.cell 2;have yl6:=yb.lt;have xb:=HX.out.mt m6 (by simp);have x26:=xb.cell 2;have xl6:=xb.lt;simp only[List.getElem?_toArray,List.getElem?_cons_zero,List.getElem?_cons_succ] at y26 x26;have HJ6:=Lib.hid (m6.ownsRow HJ.out (by simp));have HM6:=Lib.hid m6;have HY6:=Lib.hid yb;have HX6:=Lib.hid xb;have HO6:=Lib.hid hown6;have HB6:=Lib.hid ((bdrew HB.out).trans (hb6.mono (bdrew HB.out).size));clear m6 yb xb hown6 hb6)
     | (refine step_append_lies _ rfl (.tmp 19) (.tmp 26) 48 rfl w.heap.size 105 ia (.agg #[.string ⟨#[]⟩,.slice none 0 0]) 2 40 Tryz.underlying48 hia ha0 ha1 ha2 rfl (by decide) (.slice ja k jc) k _ rfl (HJ6.out.alloc _) ⟨_,0,none⟩ 1 1 [.string ⟨a.rel.toArray⟩,.slice va6 a.ts.length vc6] rfl rfl (World.news_of_block (Blk.new _ _ _)) (by simp [Value.oneCell']) (by decide) (by unfold maxLen;omega) (by omega) (by simp;have:=HB6.out.size;omega) _ rfl ?_;intro g3 cap3 wi hown3 hgrow3 hat3 hlt3;have yi:=(HY6.out.alloc (.cells #[.string ⟨a.rel.toArray⟩,.slice va6 a.ts.length vc6] 105)).grown hgrow3 (fun e=>own_blk_ne HJ6.out HY6.out (by decide) (Eq.symm e));have z2:=yi.cell 2;have zf:=yi.frozen 2;have zl:=yi.lt;simp only[List.getElem?_toArray,List.getElem?_cons_zero,List.getElem?_cons_succ] at z2;have HYI:=Lib.hid yi;clear yi))
    all_goals
     have mi:MT 0 [105] w6 wi:=((MT.refl w6).alloc _).grown hgrow3 (HJ6.out.alloc _) (by simp) (Nat.zero_le _)
     have ms:MT 0 [50] wi (wi.setCell ⟨y,2,none⟩ (.slice (some ⟨g3,0,none⟩) (k+1) cap3)):=MT.setCell (MT.refl wi) HYI.out (by simp) (Nat.zero_le _) _
     have hj2:=ms.ownsRow hown3 (by decide)
     have hno:(wi.setCell ⟨y,2,none⟩ (.slice (some ⟨g3,0,none⟩) (k+1) cap3)).ownsRow w.heap.size 113 4 (.slice va6 a.ts.length vc6) a.ts.length (a.ts.flatMap Trm.cells):=by
      rw[<-map_flat]
      exact ms.ownsRow (mi.ownsRow (World.ownsRow.low HO6.out HB.out.size) (by decide)) (by decide)
     have ha2:All2 (AtmO w.heap.size (wi.setCell ⟨y,2,none⟩ (.slice (some ⟨g3,0,none⟩) (k+1) cap3))) (rows++[[.string ⟨a.rel.toArray⟩,.slice va6 a.ts.length vc6]]) (al.take (k+1)):=by
      rw[List.take_add_one,HAT.out]
      exact All2.snoc ⟨_,rfl,hno⟩ (HA.out.1.mono fun b x h=>((h.mt HM6.out (by simp)).mt mi (by decide)).mt ms (by decide))
     have hap:Aprt (rows++[[.string ⟨a.rel.toArray⟩,.slice va6 a.ts.length vc6]]):=Aprt.snoc (b0:=0) HA.out.2 HA.out.1 (fun q hq=>(World.ownsRow.lt HO6.out q hq).1)
     have HAP:=Lib.hid hap
     clear hap
     have hos:=ms.ownsRow (mi.ownsRow (HM6.out.ownsRow HOS.out (by simp)) (by decide)) (by decide)
     have hy2:=HYI.out.set_ 2 (.slice (some ⟨g3,0,none⟩) (k+1) cap3)
     have hx2:=((HX6.out.alloc (.cells #[.string ⟨a.rel.toArray⟩,.slice va6 a.ts.length vc6] 105)).grown hgrow3 (fun e=>own_blk_ne HJ6.out HX6.out (by decide) (Eq.symm e))).far (p:=⟨y,2,none⟩) (show w.heap.size≠y by omega) (.slice (some ⟨g3,0,none⟩) (k+1) cap3)
     have hrb:=HRB.out.mt HM6.out (by simp)
     have hr2:=((hrb.alloc (.cells #[.string ⟨a.rel.toArray⟩,.slice va6 a.ts.length vc6] 105)).grown hgrow3 (fun e=>own_blk_ne HJ6.out hrb (by decide) (Eq.symm e))).far (p:=⟨y,2,none⟩) (show w.heap.size+1≠y by omega) (.slice (some ⟨g3,0,none⟩) (k+1) cap3)
     have hb2:=((balloc HB6.out (.cells #[.string ⟨a.rel.toArray⟩,.slice va6 a.ts.length vc6] 105)).grown hgrow3 (by simp;have:=HB6.out.size;omega) (fun q hq=>(HJ6.out.lt q hq).1)).setCell (p:=⟨y,2,none⟩) (show w.heap.size<=y by omega) (.slice (some ⟨g3,0,none⟩) (k+1) cap3)
     have HJ2:=Lib.hid hj2
     have HA2:=Lib.hid ha2
     have HOS2:=Lib.hid hos
     have HY2:=Lib.hid hy2
     have HX2:=Lib.hid hx2
     have HR2:=Lib.hid hr2
     have HB2:=Lib.hid hb2
     clear mi ms hj2 hno ha2 hos hy2 hx2 hrb hr2 hb2 hown3 hgrow3 hat3 hlt3 z2 zf zl
     go_wp2_with fail
     go_roundw
     case rel=>exact⟨k+1,_,_,by omega,by go_num,Lib.hid (by rw[List.flatten_append];simpa using HJ2.out),Lib.hid ⟨HA2.out,HAP.out⟩,HOS2,Lib.hid (by simpa using HY2.out),HX2,HR2,HB2⟩
     case measure=>simp [intOf];omega
   ·obtain rfl:k=n:=by omega
    have y0:=HY.out.cell 0
    have y1:=HY.out.cell 1
    simp only[List.getElem?_toArray,List.getElem?_cons_zero,List.getElem?_cons_succ] at y0 y1
    have ha:=HA.out.1
    rw[List.take_of_length_le (by rw[HN.out];exact Nat.le_refl _)] at ha
    have HAA:=Lib.hid ha
    clear ha
    go_wp2_with (refine wpList_store_blk rfl 50 _ _ rfl (w.heap.size+1) 50 _ _ rfl rfl HRB.out (by kernel_rfl) rfl (by simp [Value.oneCell']) ?_)
    intro w9 hb9 hm9 hz9
    have r0:=hb9.cell 0
    have r1:=hb9.cell 1
    have r2:=hb9.cell 2
    simp only[List.getElem?_toArray,List.getElem?_cons_zero,List.getElem?_cons_succ] at r0 r1 r2
    have m9:MT 0 [50] wr w9:=MT.ofMod hm9 HRB.out (by simp) (Nat.zero_le _)
    have HB9:=Lib.hid (Mod.own HB.out hm9 (by omega))
    have HS9:Hid (OwnS w.heap.size w9 (.slice va hd.length vc) hd):=Lib.hid (m9.ownsRow HOS.out (by decide))
    have HJ9:=Lib.hid (m9.ownsRow HJ.out (by decide))
    have HA9:=Lib.hid (HAA.out.mono fun b x h=>h.mt m9 (by decide))
    have HLN:=Lib.hid HS.out.len
    clear hb9 hm9 hz9 m9
    go_wp2_with fail
    refine bodyPost_ret (v:=.agg #[.string name,.slice va hd.length vc,.slice ja k jc]) (by simp [results,Tryz.results30,go_sem, *]) rfl ⟨_,_,rows,rfl,HS9.out,by rw[HN.out];exact HJ9.out,HA9.out,HA.out.2,HB9.out⟩
def RwsO (B:Nat) (w:World) (v:Value) (l:List (List Vl)):Prop:=∃ R,w.ownsRow B 59 1 v l.length R/\All2 (RoO B w) R l
theorem RoO.mtAny {B:Nat} {w w':World} {x:Value} {r:List Vl} {Ts:List TypeId} {B':Nat} (h:RoO B w x r) (hm:MT B' Ts w w') (ht:111 ∉ Ts):RoO B w' x r:=⟨hm.ownsRow h.1 ht,h.2⟩
theorem RoO.low {B B':Nat} {w:World} {x:Value} {r:List Vl} (h:RoO B w x r) (hb:B'<=B):RoO B' w x r:=⟨World.ownsRow.low h.1 hb,h.2⟩
theorem RwsO.mt {B B':Nat} {w w':World} {v:Value} {l:List (List Vl)} {Ts:List TypeId} (h:RwsO B w v l) (hm:MT B' Ts w w') (h1:59 ∉ Ts) (h2:111 ∉ Ts):RwsO B w' v l:=by
 obtain⟨R,h3,h4⟩:=h
 exact⟨R,hm.ownsRow h3 h1,h4.mono fun b a hh=>hh.mtAny hm h2⟩
theorem RwsO.low {B B':Nat} {w:World} {v:Value} {l:List (List Vl)} (h:RwsO B w v l) (hb:B'<=B):RwsO B' w v l:=by
 obtain⟨R,h3,h4⟩:=h
 exact⟨R,World.ownsRow.low h3 hb,h4.mono fun b a hh=>hh.low hb⟩
theorem RwsO.at_ {B:Nat} {w:World} {v:Value} {l:List (List Vl)} (h:RwsO B w v l) (hl:l.length<=8796093022208):RowsAt w v l:=by
 obtain⟨R,h3,h4⟩:=h
 exact RowsAt.ofOwn1 h3 rfl hl (h4.mono fun b a hh=>⟨hh.at_,hh.2⟩)
set_option maxHeartbeats 8000000 in
set_option maxRecDepth 100000 in
theorem copyRows_any (w:World) (v:Value) (l:List (List Vl)) (h:RowsAt w v l) (hn:l.length<=1099511627776) :
 Calls Tryz.prog 29 #[v] w fun e w'=>∃ v',e=.returned v'/\RwsO w.heap.size w' v' l/\Below w.heap.size w w':=by
 obtain⟨ic,hic,hc0,hc1,hc2⟩:=info_parts Tryz.infoRow
 obtain⟨ad,cap,rfl,hnc,hcm⟩:=h.form
 unfold maxLen at hcm
 have HR:=Lib.hid h
 clear h
 generalize hN:l.length=n at *
 have HN:=Lib.hid hN
 clear hN
 go_enter Tryz.func29,Tryz.ntmps29
 go_wp2_with (at_make;refine wpList_make_full _ rfl _ _ 45 rfl w.heap.size 59 ic (.slice none 0 0) 1 Tryz.underlying45 hic hc0 hc1 _ _ _ _ n rfl rfl rfl rfl ?b2 ?b3 ?b4 ?_)
 case b2=>rw[hc2];omega
 case b3=>unfold maxLen;omega
 case b4=>omega
 intro w5 hown5 hgrow5
 have hb5:Below w.heap.size w w5:=Below.grown (Below.refl _ _) hgrow5 (Nat.le_refl _) (fun q hq=>by cases hq)
 have HO5:=Lib.hid hown5
 have HB5:=Lib.hid hb5
 clear hown5 hgrow5 hb5
 go_wp2_with fail
 go_loopw [4] (fun i wr=>∃ (k:Nat) (R:List Value),k<=n/\i=.int .i64 k/\Hid (wr.ownsRow w.heap.size 59 1 (.slice (some ⟨w.heap.size,0,none⟩) n n) n R)/\Hid (All2 (RoO w.heap.size wr) (R.take k) (l.take k))/\Hid (Below w.heap.size w wr)) (fun i _=>n - (intOf i).toNat)
 case atStart=>exact⟨0,_,Nat.zero_le _,rfl,HO5,Lib.hid trivial,HB5⟩
 case round =>
  obtain⟨k,R,hk,rfl,OW,AL,BW⟩:=hrel
  obtain⟨wo,rfl⟩:∃ wo:World,wo=wr:=⟨_,rfl⟩
  have HRL:=Lib.hid (show R.length=n by have:=OW.out.1;omega)
  by_cases hkn:k<n
  ·obtain⟨c,hc⟩:∃ c,l[k]? = some c:=⟨l[k]'(by rw[HN.out];exact hkn),List.getElem?_eq_getElem (by rw[HN.out];exact hkn)⟩
   obtain⟨b,off,cap',rv,hv,_,_,hbl,q0,hrow,hrl⟩:=(HR.out.keep BW.out).get hc
   rw[HN.out] at hv
   simp only[Value.slice.injEq,true_and] at hv
   obtain⟨rfl,rfl⟩:=hv
   simp only[Nat.mul_one] at q0
   have hdk:decide ((k:Int)<0)=false:=by simp
   have hdn:decide ((n:Int)<=(k:Int))=false:=by simp;omega
   have HCR:=Lib.hid (copyRow_any wo rv c hrow hrl)
   obtain⟨xa,xc,rfl,_,_⟩:=hrow.form
   have HCC:=Lib.hid hc
   have HRW:=Lib.hid hrl
   clear hc hrow
   rw[List.length_map] at q0 HCR
   obtain⟨cn,hcn⟩:∃ cn,c.length=cn:=⟨_,rfl⟩
   rw[hcn] at q0 HCR HRW
   have HCN:=Lib.hid hcn
   clear hcn hrl
   go_wp2_with fail
   refine HCR.out.mono ?_
   rintro e w6 ⟨u,rfl,hu,hb6⟩
   obtain⟨ua,uc,rfl⟩:=own_sl hu
   have ho6:=(MT.ofBelow (B:=0) (Ts:=[]) hb6).ownsRow OW.out (by simp)
   have zl:=ho6.lt w.heap.size rfl
   obtain⟨z,hz⟩:∃ z,R[k]? = some z:=⟨R[k]'(by rw[HRL.out];exact hkn),List.getElem?_eq_getElem (by rw[HRL.out];exact hkn)⟩
   have z0:=own1_get ho6 hz
   have zf:=ho6.frozenAt k
   have hs:=own1_set ho6 k (.slice ua cn uc)
   have hmt:=mt_own (Ts:=[59]) hs.2 ho6 (by simp)
   have hmt6:=(MT.ofBelow (B:=0) (Ts:=[59]) hb6).trans hmt
   have hbw:=(BW.out.trans (hb6.mono BW.out.size)).trans (hs.2.below (by have:=BW.out.size;have:=hb6.size;omega) (fun q hq=>by rw[hq];exact Nat.le_refl _))
   have HU:=Lib.hid (show RoO w.heap.size (w6.setCell ⟨w.heap.size,k,none⟩ (.slice ua cn uc)) (.slice ua cn uc) c from RoO.mtAny ⟨by rw[HCN.out];exact World.ownsRow.low hu BW.out.size,by rw[HCN.out];exact HRW.out⟩ hmt (by decide))
   have HS:=Lib.hid hs.1
   have HMT:=Lib.hid hmt6
   have HBN:=Lib.hid hbw
   have z1:=z0.1
   have z2:=z0.2
   clear hu hb6 ho6 z0 hs hmt hmt6 hbw zl HCR hz
   go_wp2_with fail
   go_roundw
   case rel =>
    refine⟨k+1,R.set k _,by omega,by go_num,HS,Lib.hid ?_,HBN⟩
    rw[set_take (by rw[HRL.out];exact hkn),List.take_add_one (l:=l),HCC.out]
    exact All2.snoc HU.out (AL.out.mono fun b a hh=>hh.mtAny HMT.out (by decide))
   case measure=>simp [intOf];omega
  ·obtain rfl:k=n:=by omega
   have hal:=AL.out
   rw[List.take_of_length_le (by rw[HRL.out];exact Nat.le_refl _),List.take_of_length_le (by rw[HN.out];exact Nat.le_refl _)] at hal
   have HAL:=Lib.hid hal
   clear hal
   go_wp2_with fail
   go_ret
   exact⟨_,rfl,⟨R,by rw[HN.out];exact OW.out,HAL.out⟩,BW.out⟩
def TblO (B:Nat) (w:World) (row:List Value) (t:Tbl):Prop:=∃ y,row=[.string ⟨t.rel.toArray⟩,y]/\RwsO B w y t.rows
theorem TblO.mt {B B':Nat} {w w':World} {row:List Value} {t:Tbl} {Ts:List TypeId} (h:TblO B w row t) (hm:MT B' Ts w w') (h1:59 ∉ Ts) (h2:111 ∉ Ts):TblO B w' row t:=by
 obtain⟨y,rfl,h3⟩:=h
 exact⟨y,rfl,h3.mt hm h1 h2⟩
theorem TblO.len {B:Nat} {w:World} {row:List Value} {t:Tbl} (h:TblO B w row t):row.length=2:=by
 obtain⟨y,rfl,_⟩:=h
 rfl
def TbsO (B:Nat) (w:World) (v:Value) (l:List Tbl):Prop:=∃ rows:List (List Value),w.ownsRow B 47 2 v l.length rows.flatten/\All2 (TblO B w) rows l
theorem TbsO.at_ {B:Nat} {w:World} {v:Value} {l:List Tbl} (h:TbsO B w v l) (hl:l.length<=8796093022208) (hr:∀ t∈l,t.rows.length<=8796093022208):TblsAt w v l:=by
 obtain⟨rows,h1,h2⟩:=h
 have hll:=h2.length
 refine⟨rows,RowAt.ofOwn h1 hll.symm (fun x hx=>?_) (by omega),all2_and h2 fun c x hx hh=>?_⟩
 ·obtain⟨t,_,ht⟩:=all2_mem h2 x hx
  exact ht.len
 ·obtain⟨y,rfl,h3⟩:=hh
  exact⟨y,rfl,h3.at_ (hr x hx)⟩
theorem Tryz.infoTbc:(Tryz.prog.info? 47).map (fun i=>(i.zero,i.size,i.bytes))=some (some (.agg #[.string ⟨#[]⟩,.slice none 0 0]),2,40):=by kernel_rfl
set_option maxHeartbeats 8000000 in
set_option maxRecDepth 100000 in
theorem copyTbls_any (w:World) (v:Value) (l:List Tbl) (h:TblsAt w v l) (hn:l.length<=1099511627776) (hrs:∀ t∈l,t.rows.length<=1099511627776) :
 Calls Tryz.prog 10 #[v] w fun e w'=>∃ v',e=.returned v'/\TbsO w.heap.size w' v' l/\Below w.heap.size w w':=by
 obtain⟨ic,hic,hc0,hc1,hc2⟩:=info_parts Tryz.infoTbc
 obtain⟨ad,cap,rfl,hnc,hcm⟩:=h.form
 unfold maxLen at hcm
 have HR:=Lib.hid h
 have HRS:=Lib.hid hrs
 clear h hrs
 generalize hN:l.length=n at *
 have HN:=Lib.hid hN
 clear hN
 go_enter Tryz.func10,Tryz.ntmps10
 go_wp2_with (at_make;refine wpList_make_full _ rfl _ _ 23 rfl w.heap.size 47 ic (.agg #[.string ⟨#[]⟩,.slice none 0 0]) 2 Tryz.underlying23 hic hc0 hc1 _ _ _ _ n rfl rfl rfl rfl ?b2 ?b3 ?b4 ?_)
 case b2=>rw[hc2];omega
 case b3=>unfold maxLen;omega
 case b4=>omega
 intro w5 hown5 hgrow5
 obtain⟨rows0,hr0,hr1,hr2⟩:=split_rows 2 n _ hown5.1
 rw[<-hr2] at hown5
 have hb5:Below w.heap.size w w5:=Below.grown (Below.refl _ _) hgrow5 (Nat.le_refl _) (fun q hq=>by cases hq)
 have HO5:=Lib.hid hown5
 have HB5:=Lib.hid hb5
 have HRL:=Lib.hid (And.intro hr0 hr1)
 clear hown5 hgrow5 hb5 hr0 hr1 hr2
 go_wp2_with fail
 go_loopw [4] (fun i wr=>∃ (k:Nat) (rows:List (List Value)),k<=n/\i=.int .i64 k/\Hid (wr.ownsRow w.heap.size 47 2 (.slice (some ⟨w.heap.size,0,none⟩) n n) n rows.flatten)/\Hid (rows.length=n/\∀ x∈rows,x.length=2)/\Hid (All2 (TblO w.heap.size wr) (rows.take k) (l.take k))/\Hid (Below w.heap.size w wr)) (fun i _=>n - (intOf i).toNat)
 case atStart=>exact⟨0,rows0,Nat.zero_le _,rfl,HO5,HRL,Lib.hid trivial,HB5⟩
 case round =>
  obtain⟨k,rows,hk,rfl,OW,RL,AL,BW⟩:=hrel
  obtain⟨wo,rfl⟩:∃ wo:World,wo=wr:=⟨_,rfl⟩
  by_cases hkn:k<n
  ·obtain⟨c,hc⟩:∃ c,l[k]? = some c:=⟨l[k]'(by rw[HN.out];exact hkn),List.getElem?_eq_getElem (by rw[HN.out];exact hkn)⟩
   obtain⟨b,off,cap',rv,hv,_,_,hbl,q0,q1,hrow⟩:=(HR.out.keep BW.out).get hc
   rw[HN.out] at hv
   simp only[Value.slice.injEq,true_and] at hv
   obtain⟨rfl,rfl⟩:=hv
   have hdk:decide ((k:Int)<0)=false:=by simp
   have hdn:decide ((n:Int)<=(k:Int))=false:=by simp;omega
   have HCR:=Lib.hid (copyRows_any wo.drew rv c.rows (hrow.keep (bdrew (Below.refl _ _))) (HRS.out c (List.mem_of_getElem? hc)))
   obtain⟨xa,xc,rfl,_,_⟩:=hrow.form
   have HCC:=Lib.hid hc
   have HQ:=Lib.hid (And.intro q0 (And.intro q1 hbl))
   obtain⟨cn,hcn⟩:∃ cn,c.rows.length=cn:=⟨_,rfl⟩
   rw[hcn] at HCR HQ
   have HCN:=Lib.hid hcn
   clear hc hrow hcn q0 q1 hbl
   go_upto_region 5 with fail
   obtain⟨SS,hSS⟩:∃ SS:World->Prop,SS=fun W=>W.cell? ⟨b,off+k * 2,none⟩=some (.string ⟨c.rel.toArray⟩)/\W.cell? ⟨b,off+k * 2+1,none⟩=some (.slice xa cn xc)/\b<W.heap.size:=⟨_,rfl⟩
   have HSC:=Lib.hid (fun W (q:SS W)=>(by rw[hSS] at q;exact q:W.cell? ⟨b,off+k * 2,none⟩=some (.string ⟨c.rel.toArray⟩)/\W.cell? ⟨b,off+k * 2+1,none⟩=some (.slice xa cn xc)/\b<W.heap.size))
   have HSI:=Lib.hid (fun W (q:W.cell? ⟨b,off+k * 2,none⟩=some (.string ⟨c.rel.toArray⟩)/\W.cell? ⟨b,off+k * 2+1,none⟩=some (.slice xa cn xc)/\b<W.heap.size)=>(by rw[hSS];exact q:SS W))
   clear hSS
   have HSS:SS wo.drew:=HSI.out _ (HQ.out)
   refine AnyTill.start SS 15 (by kernel_rfl) ?_
   refine AnyTill.tk 0 14 HSS ?_
   refine AnyTill.tk 1 15 HSS ?_
   refine AnyTill.tk 2 16 HSS ?_
   refine AnyTill.tk 3 17 HSS ?_
   refine AnyTill.tk 4 18 HSS ?_
   refine AnyTill.tk 5 19 HSS ?_
   refine AnyTill.tk 6 20 HSS ?_
   refine AnyTill.tk 7 21 HSS ?_
   refine AnyTill.on 8 (fun K hK=>?_)
   go_simp
   refine hK.out _ _ (fun _=>HSS) ?_
   clear hK K
   try simp only[List.setIfInBounds_toArray,List.set_cons_succ,List.set_cons_zero]
   refine AnyTill.on 9 (fun K hK=>?_)
   go_simp
   refine hK.out _ _ (fun _=>HSS) ?_
   clear hK K
   try simp only[List.setIfInBounds_toArray,List.set_cons_succ,List.set_cons_zero]
   refine AnyTill.on 10 (fun K hK=>?_)
   go_simp
   refine hK.out _ _ (fun _=>HSS) ?_
   clear hK K
   try simp only[List.setIfInBounds_toArray,List.set_cons_succ,List.set_cons_zero]
   refine AnyTill.tk 11 25 HSS ?_
   refine AnyTill.on 12 (fun K hK=>?_)
   go_simp
   refine HCR.out.mono ?_
   rintro e w6 ⟨u,rfl,hu,hb6⟩
   obtain⟨ua,uc,hue⟩:∃ ua uc,u=.slice ua cn uc:=by
    obtain⟨R,h3,_⟩:=hu
    obtain⟨ua,uc,rfl⟩:=own_sl h3
    exact⟨ua,uc,by rw[HCN.out]⟩
   subst hue
   have hb7:Below wo.heap.size wo w6:=bt2 (bdrew (Below.refl _ _)) hb6
   have HU:=Lib.hid (hu.low (show w.heap.size<=_ from BW.out.size))
   have HB7:=Lib.hid hb7
   have HO6:=Lib.hid ((MT.ofBelow (B:=0) (Ts:=[]) hb7).ownsRow OW.out (by simp))
   clear HSS
   have HSS:=HSI.out w6 ⟨(hb7.cell (p:=⟨b,off+k * 2,none⟩) HQ.out.2.2).trans HQ.out.1,(hb7.cell (p:=⟨b,off+k * 2+1,none⟩) HQ.out.2.2).trans HQ.out.2.1,Nat.lt_of_lt_of_le HQ.out.2.2 hb7.size⟩
   refine hK.out _ _ (fun _=>HSS) ?_
   clear hK K hu hb6 hb7 HCR
   try simp only[List.setIfInBounds_toArray,List.set_cons_succ,List.set_cons_zero]
   refine AnyTill.tk 13 27 HSS ?_
   refine AnyTill.tk 14 28 HSS ?_
   refine AnyTill.on 15 (fun K hK=>?_)
   refine step_store_elem rfl 47 _ _ rfl w.heap.size k 47 2 w.heap.size n n rows _ rfl rfl HO6.out RL.out.2 RL.out.1 hkn rfl (by kernel_rfl) (by simp [Value.oneCell']) ?_
   intro w7 h7 m7 z7
   refine hK.out _ _ (fun h=>by simp at h) ?_
   clear hK K
   refine AnyTill.done (by kernel_rfl) ?_
   clear HSC HSI HSS
   have hmt:=mt_own (Ts:=[47]) m7 HO6.out (by simp)
   have hall:All2 (TblO w.heap.size w7) ((rows.set k [.string ⟨c.rel.toArray⟩,.slice ua cn uc]).take (k+1)) (l.take (k+1)):=by
    rw[set_take (by rw[RL.out.1];exact hkn),List.take_add_one (l:=l),HCC.out]
    exact All2.snoc ⟨_,rfl,HU.out.mt hmt (by decide) (by decide)⟩ (AL.out.mono fun q a hh=>(hh.mt (MT.ofBelow (B:=0) (Ts:=[]) HB7.out) (by simp) (by simp)).mt hmt (by decide) (by decide))
   have HS:=Lib.hid h7
   have HAL:=Lib.hid hall
   have HBN:=Lib.hid (Mod.own (BW.out.trans (HB7.out.mono BW.out.size)) m7 (Nat.le_refl _))
   clear h7 m7 z7 hmt hall
   go_wp2_with fail
   go_roundw
   case rel=>exact⟨k+1,_,by omega,by go_num,HS,Lib.hid ⟨by rw[List.length_set];exact RL.out.1,set_all RL.out.2 rfl⟩,HAL,HBN⟩
   case measure=>simp [intOf];omega
  ·obtain rfl:k=n:=by omega
   have hal:=AL.out
   rw[List.take_of_length_le (by rw[RL.out.1];exact Nat.le_refl _),List.take_of_length_le (by rw[HN.out];exact Nat.le_refl _)] at hal
   have HAL:=Lib.hid hal
   clear hal
   go_wp2_with fail
   go_ret
   exact⟨_,rfl,⟨rows,by rw[HN.out];exact OW.out,HAL.out⟩,BW.out⟩
def QryO (B:Nat) (w:World) (row:List Value) (q:Qry):Prop:=∃ hv av,row=[.string ⟨q.name.toArray⟩,hv,av]/\OwnS B w hv q.head/\∃ rows,w.ownsRow B 105 2 av q.atoms.length (List.flatten rows)/\All2 (AtmO B w) rows q.atoms
theorem QryO.mt {B B':Nat} {w w':World} {row:List Value} {q:Qry} {Ts:List TypeId} (h:QryO B w row q) (hm:MT B' Ts w w') (h1:9 ∉ Ts) (h2:105 ∉ Ts) (h3:113 ∉ Ts):QryO B w' row q:=by
 obtain⟨hv,av,rfl,h4,rows,h5,h6⟩:=h
 exact⟨hv,av,rfl,hm.ownsRow h4 h1,rows,hm.ownsRow h5 h2,h6.mono fun b a hh=>hh.mt hm h3⟩
theorem QryO.len {B:Nat} {w:World} {row:List Value} {q:Qry} (h:QryO B w row q):row.length=3:=by
 obtain⟨hv,av,rfl,_⟩:=h
 rfl
def QrsO (B:Nat) (w:World) (v:Value) (l:List Qry):Prop:=∃ rows:List (List Value),w.ownsRow B 50 3 v l.length rows.flatten/\All2 (QryO B w) rows l
def QrsS (l:List Qry):Prop:=∀ q∈l,q.head.length<=8796093022208/\q.atoms.length<=3518437208780/\∀ a∈q.atoms,a.ts.length<=2932031007317
theorem QrsO.at_ {B:Nat} {w:World} {v:Value} {l:List Qry} (h:QrsO B w v l) (hl:l.length<=8796093022208) (hr:QrsS l):QrysAt w v l:=by
 obtain⟨rows,h1,h2⟩:=h
 have hll:=h2.length
 refine⟨rows,RowAt.ofOwn h1 hll.symm (fun x hx=>?_) (by omega),all2_and h2 fun c x hx hh=>?_⟩
 ·obtain⟨t,_,ht⟩:=all2_mem h2 x hx
  exact ht.len
 ·obtain⟨hv,av,rfl,h3,rws,h4,h5⟩:=hh
  obtain⟨q1,q2,q3⟩:=hr x hx
  exact⟨hv,av,rfl,OwnS.strs h3 q1,atomsRowG h4 rfl h5 (by omega) q3⟩
theorem Tryz.infoQrc:(Tryz.prog.info? 50).map (fun i=>(i.zero,i.size,i.bytes))=some (some (.agg #[.string ⟨#[]⟩,.slice none 0 0,.slice none 0 0]),3,64):=by kernel_rfl
set_option maxHeartbeats 8000000 in
set_option maxRecDepth 100000 in
theorem copyQrys_any (w:World) (v:Value) (l:List Qry) (h:QrysAt w v l) (hn:l.length<=1099511627776) (hrs:QrsS l) :
 Calls Tryz.prog 11 #[v] w fun e w'=>∃ v',e=.returned v'/\QrsO w.heap.size w' v' l/\Below w.heap.size w w':=by
 obtain⟨ic,hic,hc0,hc1,hc2⟩:=info_parts Tryz.infoQrc
 obtain⟨ad,cap,rfl,hnc,hcm⟩:=h.form
 unfold maxLen at hcm
 have HR:=Lib.hid h
 have HRS:=Lib.hid hrs
 clear h hrs
 generalize hN:l.length=n at *
 have HN:=Lib.hid hN
 clear hN
 go_enter Tryz.func11,Tryz.ntmps11
 go_wp2_with (at_make;refine wpList_make_full _ rfl _ _ 24 rfl w.heap.size 50 ic (.agg #[.string ⟨#[]⟩,.slice none 0 0,.slice none 0 0]) 3 Tryz.underlying24 hic hc0 hc1 _ _ _ _ n rfl rfl rfl rfl ?b2 ?b3 ?b4 ?_)
 case b2=>rw[hc2];omega
 case b3=>unfold maxLen;omega
 case b4=>omega
 intro w5 hown5 hgrow5
 obtain⟨rows0,hr0,hr1,hr2⟩:=split_rows 3 n _ hown5.1
 rw[<-hr2] at hown5
 have hb5:Below w.heap.size w w5:=Below.grown (Below.refl _ _) hgrow5 (Nat.le_refl _) (fun q hq=>by cases hq)
 have HO5:=Lib.hid hown5
 have HB5:=Lib.hid hb5
 have HRL:=Lib.hid (And.intro hr0 hr1)
 clear hown5 hgrow5 hb5 hr0 hr1 hr2
 go_wp2_with fail
 go_loopw [10] (fun i wr=>∃ (k:Nat) (rows:List (List Value)),k<=n/\i=.int .i64 k/\Hid (wr.ownsRow w.heap.size 50 3 (.slice (some ⟨w.heap.size,0,none⟩) n n) n rows.flatten)/\Hid (rows.length=n/\∀ x∈rows,x.length=3)/\Hid (All2 (QryO w.heap.size wr) (rows.take k) (l.take k))/\Hid (Below w.heap.size w wr)) (fun i _=>n - (intOf i).toNat)
 case atStart=>exact⟨0,rows0,Nat.zero_le _,rfl,HO5,HRL,Lib.hid trivial,HB5⟩
 case round =>
  obtain⟨k,rows,hk,rfl,OW,RL,AL,BW⟩:=hrel
  obtain⟨wo,rfl⟩:∃ wo:World,wo=wr:=⟨_,rfl⟩
  by_cases hkn:k<n
  ·obtain⟨c,hc⟩:∃ c,l[k]? = some c:=⟨l[k]'(by rw[HN.out];exact hkn),List.getElem?_eq_getElem (by rw[HN.out];exact hkn)⟩
   obtain⟨b,off,cap',hv',av',hv,_,_,hbl,q0,q1,q2,hh,ha⟩:=(HR.out.keep BW.out).get hc
   rw[HN.out] at hv
   simp only[Value.slice.injEq,true_and] at hv
   obtain⟨rfl,rfl⟩:=hv
   have hdk:decide ((k:Int)<0)=false:=by simp
   have hdn:decide ((n:Int)<=(k:Int))=false:=by simp;omega
   have HCR:=Lib.hid (copyO_any wo ⟨c.name.toArray⟩ hv' av' c.head c.atoms hh ha (HRS.out c (List.mem_of_getElem? hc)).2.1)
   obtain⟨xa,xc,rfl,_,_⟩:=hh.form
   obtain⟨ya,yc,rfl,_,_⟩:=ha.form
   have HCC:=Lib.hid hc
   clear hc hh ha
   obtain⟨hn1,hhn⟩:∃ hn1,c.head.length=hn1:=⟨_,rfl⟩
   obtain⟨an1,han⟩:∃ an1,c.atoms.length=an1:=⟨_,rfl⟩
   rw[hhn,han] at HCR
   rw[hhn] at q1
   rw[han] at q2
   have HHN:=Lib.hid (And.intro hhn han)
   clear hhn han
   go_wp2_with fail
   refine HCR.out.mono ?_
   rintro e w6 ⟨ghv,gav,gr,rfl,g1,g2,g3,_,hb6⟩
   obtain⟨ua,uc,rfl⟩:=own_sl g1
   obtain⟨va,vc,rfl⟩:=own_sl g2
   rw[HHN.out.1] at g1 ⊢
   rw[HHN.out.2] at g2 ⊢
   have ho6:=(MT.ofBelow (B:=0) (Ts:=[]) hb6).ownsRow OW.out (by simp)
   have HO6:=Lib.hid ho6
   have HB6:=Lib.hid hb6
   have hq:QryO w.heap.size w6 [.string ⟨c.name.toArray⟩,.slice ua hn1 uc,.slice va an1 vc] c:=⟨_,_,rfl,World.ownsRow.low (show World.ownsRow _ _ _ _ _ _ _ from g1) BW.out.size,gr,World.ownsRow.low (by rw[HHN.out.2];exact g2) BW.out.size,g3.mono fun b a hh=>by
    obtain⟨tv,e,ho⟩:=hh
    exact⟨tv,e,World.ownsRow.low ho BW.out.size⟩⟩
   have HQ:=Lib.hid hq
   clear ho6 hb6 g1 g2 g3 hq HCR
   go_wp2_with (refine wpList_store_elem rfl 50 _ _ rfl w.heap.size k 50 3 w.heap.size n n rows _ rfl rfl HO6.out RL.out.2 RL.out.1 hkn rfl (by kernel_rfl) (by simp [Value.oneCell']) ?_)
   intro w7 h7 m7 z7
   have hmt:=mt_own (Ts:=[50]) m7 HO6.out (by simp)
   have hall:All2 (QryO w.heap.size w7) ((rows.set k [.string ⟨c.name.toArray⟩,.slice ua hn1 uc,.slice va an1 vc]).take (k+1)) (l.take (k+1)):=by
    rw[set_take (by rw[RL.out.1];exact hkn),List.take_add_one (l:=l),HCC.out]
    exact All2.snoc (HQ.out.mt hmt (by decide) (by decide) (by decide)) (AL.out.mono fun q a hh=>(hh.mt (MT.ofBelow (B:=0) (Ts:=[]) HB6.out) (by simp) (by simp) (by simp)).mt hmt (by decide) (by decide) (by decide))
   have HS:=Lib.hid h7
   have HAL:=Lib.hid hall
   have HBN:=Lib.hid (Mod.own (BW.out.trans (HB6.out.mono BW.out.size)) m7 (Nat.le_refl _))
   clear h7 m7 z7 hmt hall q0 q1 q2
   go_wp2_with fail
   go_roundw
   case rel=>exact⟨k+1,_,by omega,by go_num,HS,Lib.hid ⟨by rw[List.length_set];exact RL.out.1,set_all RL.out.2 rfl⟩,HAL,HBN⟩
   case measure=>simp [intOf];omega
  ·obtain rfl:k=n:=by omega
   have hal:=AL.out
   rw[List.take_of_length_le (by rw[RL.out.1];exact Nat.le_refl _),List.take_of_length_le (by rw[HN.out];exact Nat.le_refl _)] at hal
   have HAL:=Lib.hid hal
   clear hal
   go_wp2_with fail
   go_ret
   exact⟨_,rfl,⟨rows,by rw[HN.out];exact OW.out,HAL.out⟩,BW.out⟩
end Go.Proofs.YtgopfpjinohncaaGreatDoor
