/- osierref09.Copy, walked: the copy's rows are the call's own, and apart (turned out of Cq by program). -/
import Derived.Test.YtgopfpjinohncaaGreatDoorBaL
import Derived.Deep.Cut
import Derived.Deep.CutRange
namespace Go.Proofs.YtgopfpjinohncaaGreatDoor
open Go.RowKit
set_option linter.unusedVariables false
def tvOf (x:List Value):Value:=x.getD 1 undef
def Aprt (rows:List (List Value)):Prop:=rows.Pairwise fun x y=>∀ k,(tvOf x).ownBlock=some k->(tvOf y).ownBlock≠some k
theorem Aprt.snoc {B b0:Nat} {w:World} {rows:List (List Value)} {al:List Atm} {x:List Value} (h:Aprt rows) (ha:All2 (AtmO B w) rows al) (hx:∀ k,(tvOf x).ownBlock=some k->w.heap.size<=k):Aprt (rows++[x]):=by
 refine List.pairwise_append.2 ⟨h,List.pairwise_singleton _ _,fun a hm b hb k hk=>?_⟩
 rw[List.mem_singleton] at hb
 subst hb
 intro hk2
 have h1:=hx k hk2
 obtain⟨at',_,tv,rfl,ho⟩:=all2_mem ha a hm
 have h2:=(World.ownsRow.lt ho k hk).2
 omega
def CopyO (w:World) (name:ByteArray) (hd:List (List UInt8)) (al:List Atm) (e:Ending) (w':World):Prop :=
 ∃ hv av rows,e=.returned (.agg #[.string name,hv,av])/\OwnS w.heap.size w' hv hd/\w'.ownsRow w.heap.size 105 2 av al.length rows.flatten/\All2 (AtmO w.heap.size w') rows al/\Aprt rows/\Below w.heap.size w w'
set_option maxHeartbeats 8000000 in
set_option maxRecDepth 100000 in
theorem copyO_any (w:World) (name:ByteArray) (hv av:Value) (hd:List (List UInt8)) (al:List Atm) (h1:StrsAt w hv hd) (h2:AtomsAt w av al) (hn:al.length<=3518437208780) :
 Calls Tryz.prog 30 #[.agg #[.string name,hv,av]] w (CopyO w name hd al):=by
 obtain⟨ia,hia,ha0,ha1,ha2⟩:=info_parts Tryz.infoAtm
 obtain⟨ad,cap,rfl,hnc,hcm⟩:=h2.form
 obtain⟨hh,hc,rfl,hhc,hhm⟩:=h1.form
 unfold maxLen at hcm
 have HR:=Lib.hid h2
 have HS:=Lib.hid h1
 generalize hN:al.length=n at *
 have HN:=Lib.hid hN
 have bx:=(Blk.new w 50 #[.string name,.slice hh hd.length hc,.slice ad n cap]).alloc (.cells #[.string ⟨#[]⟩,.slice none 0 0,.slice none 0 0] 50)
 have br:=blkNew1 w (.cells #[.string name,.slice hh hd.length hc,.slice ad n cap] 50) 50 #[.string ⟨#[]⟩,.slice none 0 0,.slice none 0 0]
 have b0:Below w.heap.size w ((w.alloc (.cells #[.string name,.slice hh hd.length hc,.slice ad n cap] 50)).alloc (.cells #[.string ⟨#[]⟩,.slice none 0 0,.slice none 0 0] 50)):=balloc (balloc (Below.refl _ _) _) _
 have HTX:=Lib.hid (fun W (hb:Below w.heap.size w W)=>textsC_any W _ hd (h1.keep hb))
 have BX:=Lib.hid bx
 have BR:=Lib.hid br
 have B0:=Lib.hid b0
 clear h1 h2 hN bx br b0
 go_enter Tryz.func30,Tryz.ntmps30
 go_wp2_with fail
 have x0:=BX.out.cell 0
 have x1:=BX.out.cell 1
 have x2:=BX.out.cell 2
 simp only[List.getElem?_toArray,List.getElem?_cons_zero,List.getElem?_cons_succ] at x0 x1 x2
 have hxl:=BX.out.lt
 have hzs:(((w.alloc (.cells #[.string name,.slice hh hd.length hc,.slice ad n cap] 50)).alloc (.cells #[.string ⟨#[]⟩,.slice none 0 0,.slice none 0 0] 50)).drew).heap.size=w.heap.size+1+1:=by simp
 have zz:=Blk.new (((w.alloc (.cells #[.string name,.slice hh hd.length hc,.slice ad n cap] 50)).alloc (.cells #[.string ⟨#[]⟩,.slice none 0 0,.slice none 0 0] 50)).drew) 50 #[.string ⟨#[]⟩,.slice none 0 0,.slice none 0 0]
 rw[hzs] at zz
 have Z:=Lib.hid zz
 clear zz hzs
 have hz2:((w.alloc (.cells #[.string name,.slice hh hd.length hc,.slice ad n cap] 50)).alloc (.cells #[.string ⟨#[]⟩,.slice none 0 0,.slice none 0 0] 50)).heap.size=w.heap.size+1+1:=by simp
 go_cut [3] from 5 to 10 (fun s3 wx=>∃ (y:Nat) (va:Option Addr) (vc:Nat),s3=.pointer (some ⟨y,0,none⟩)/\Hid (OwnS w.heap.size wx (.slice va hd.length vc) hd)/\Hid (Blk wx y 50 #[.string name,.slice va hd.length vc,.slice none 0 0])/\Hid (Blk wx w.heap.size 50 #[.string name,.slice hh hd.length hc,.slice ad n cap])/\Hid (Blk wx (w.heap.size+1) 50 #[.string ⟨#[]⟩,.slice none 0 0,.slice none 0 0])/\Hid (Below w.heap.size w wx)/\w.heap.size+2<=y)
 case first =>
  go_region_law (first
   | (go_simp;go_at_call 17;refine (HTX.out _ (balloc (bdrew B0.out) (.cells #[.string ⟨#[]⟩,.slice none 0 0,.slice none 0 0] 50))).mono ?_;rintro e w1 ⟨v1,rfl,hown1,hb1⟩;obtain⟨va,vc,rfl⟩:=own_sl (show World.ownsRow _ _ _ _ _ _ _ from hown1);have zb:=Z.out.below hb1 (by simp);have z0:=zb.cell 0;have z1:=zb.cell 1;have z2:=zb.cell 2;have f0:=zb.frozen 0;have f1:=zb.frozen 1;have f2:=zb.frozen 2;have zl:=zb.lt;have xb:=(BX.out.drew.alloc (.cells #[.string ⟨#[]⟩,.slice none 0 0,.slice none 0 0] 50)).below hb1 (by simp<;>omega);have rb:=(BR.out.drew.alloc (.cells #[.string ⟨#[]⟩,.slice none 0 0,.slice none 0 0] 50)).below hb1 (by simp<;>omega);have y0:=xb.cell 0;have yl:=xb.lt;have bw:=(balloc (bdrew B0.out) (.cells #[.string ⟨#[]⟩,.slice none 0 0,.slice none 0 0] 50)).trans (hb1.mono (by simp<;>omega));have hlow:=World.ownsRow.low (show World.ownsRow _ _ _ _ _ _ _ from hown1) (show w.heap.size<=_ by simp<;>omega);simp only[List.getElem?_toArray,List.getElem?_cons_zero,List.getElem?_cons_succ] at z0 z1 z2 y0;have HZB:=Lib.hid zb;have HXB:=Lib.hid xb;have HRB:=Lib.hid rb;have HBW:=Lib.hid bw;have HLW:=Lib.hid hlow;clear zb xb rb bw hlow hown1 hb1)
   | (go_simp;go_at_call 17;refine (HTX.out _ (bdrew B0.out)).mono ?_;rintro e w1 ⟨v1,rfl,hown1,hb1⟩;obtain⟨va,vc,rfl⟩:=own_sl (show World.ownsRow _ _ _ _ _ _ _ from hown1);have xb:=BX.out.drew.below hb1 (by simp<;>omega);have rb:=BR.out.drew.below hb1 (by simp<;>omega);have y0:=xb.cell 0;have yl:=xb.lt;simp only[List.getElem?_toArray,List.getElem?_cons_zero] at y0;have bw:=(bdrew B0.out).trans (hb1.mono (by simp<;>omega));have hlow:=World.ownsRow.low (show World.ownsRow _ _ _ _ _ _ _ from hown1) (show w.heap.size<=_ by simp<;>omega);have hgz:=hb1.size;simp at hgz;have HXB:=Lib.hid xb;have HRB:=Lib.hid rb;have HBW:=Lib.hid bw;have HLW:=Lib.hid hlow;clear xb rb bw hlow hown1 hb1))
  all_goals
   go_wp2_with fail
   go_meet
   first
    | (have hs3:=set3_facts (a:=.string name) (b:=.slice va hd.length vc) (c:=.slice none 0 0) HZB.out
       exact⟨_,_,_,rfl,Lib.hid (hs3.2.1.ownsRow HLW.out (by decide)),Lib.hid hs3.1,Lib.hid (hs3.2.2.1 _ _ _ (by omega) HXB.out),Lib.hid (hs3.2.2.1 _ _ _ (by omega) HRB.out),Lib.hid (hs3.2.2.2 _ _ (by omega) HBW.out),by omega⟩)
    | exact⟨_,_,_,rfl,Lib.hid ((Mod.ofBelow (F:=fun _=>False) (balloc (Below.refl _ _) _)).ownsRow HLW.out (fun _ _ f=>f)),Lib.hid (Blk.new _ _ _),Lib.hid (HXB.out.alloc _),Lib.hid (HRB.out.alloc _),Lib.hid (balloc HBW.out _),by omega⟩
 case rest =>
  obtain⟨y,va,vc,rfl,HOS,HY,HX,HRB,HB,hy⟩:=hcut
  go_wp2_with fail
  go_loopw [4] (fun i wr=>∃ (k:Nat) (jv:Value) (rows:List (List Value)),k<=n/\i=.int .i64 k/\Hid (wr.ownsRow w.heap.size 105 2 jv k rows.flatten)/\Hid (All2 (AtmO w.heap.size wr) rows (al.take k)/\Aprt rows)/\Hid (OwnS w.heap.size wr (.slice va hd.length vc) hd)/\Hid (Blk wr y 50 #[.string name,.slice va hd.length vc,jv])/\Hid (Blk wr w.heap.size 50 #[.string name,.slice hh hd.length hc,.slice ad n cap])/\Hid (Blk wr (w.heap.size+1) 50 #[.string ⟨#[]⟩,.slice none 0 0,.slice none 0 0])/\Hid (Below w.heap.size w wr)) (fun i _=>n - (intOf i).toNat)
  case atStart=>exact⟨0,.slice none 0 0,[],Nat.zero_le _,rfl,Lib.hid (World.ownsRow_nil _ _ _ _),Lib.hid ⟨trivial,List.Pairwise.nil⟩,HOS,HY,HX,HRB,HB⟩
  case round =>
   obtain⟨k,jv,rows,hk,rfl,HJ,HA,HOS,HY,HX,HRB,HB⟩:=hrel
   obtain⟨ja,jc,rfl⟩:=own_sl HJ.out
   have x2:=HX.out.cell 2
   have y2:=HY.out.cell 2
   simp only[List.getElem?_toArray,List.getElem?_cons_zero,List.getElem?_cons_succ] at x2 y2
   have hxl:=HX.out.lt
   have hyl:=HY.out.lt
   by_cases hlt:k<n
   ·obtain⟨a,ha⟩:∃ a,al[k]? = some a:=⟨al[k]'(by rw[HN.out];exact hlt),List.getElem?_eq_getElem (by rw[HN.out];exact hlt)⟩
    obtain⟨b,off,cap',tv,hv',_,_,hbl,g0,g1,hrow,hal⟩:=(HR.out.keep HB.out).get ha
    rw[HN.out] at hv'
    simp only[Value.slice.injEq,true_and] at hv'
    obtain⟨rfl,rfl⟩:=hv'
    obtain⟨ta,tc,rfl,_,_⟩:=hrow.form
    have hd1:decide ((k:Int)<0)=false:=by simp
    have hd2:decide ((n:Int)<=(k:Int))=false:=by simp;omega
    simp only[List.length_map] at g1 hrow
    have hca:=copyAtom_any wr.drew ⟨a.rel.toArray⟩ (.slice ta a.ts.length tc) a.ts (hrow.keep (bdrew (Below.refl _ _))) hal
    have HCA:=Lib.hid hca
    have HAT:=Lib.hid ha
    clear hca hrow ha
    go_wp2_with fail
    go_region_law (first
     | (go_simp;go_at_call 78;refine HCA.out.mono ?_;rintro e w6 ⟨tv6,rfl,hown6,hb6⟩;obtain⟨va6,vc6,rfl⟩:=own_sl hown6;have m6:MT 0 [] wr w6:=(MT.refl wr).drew.trans (MT.ofBelow hb6);have yb:=HY.out.mt m6 (by simp);have y26:=yb.cell 2;have yl6:=yb.lt;have xb:=HX.out.mt m6 (by simp);have x26:=xb.cell 2;have xl6:=xb.lt;simp only[List.getElem?_toArray,List.getElem?_cons_zero,List.getElem?_cons_succ] at y26 x26;have HJ6:=Lib.hid (m6.ownsRow HJ.out (by simp));have HM6:=Lib.hid m6;have HY6:=Lib.hid yb;have HX6:=Lib.hid xb;have HO6:=Lib.hid hown6;have HB6:=Lib.hid ((bdrew HB.out).trans (hb6.mono (bdrew HB.out).size));clear m6 yb xb hown6 hb6)
     | (refine step_append_lies _ rfl (.tmp 19) (.tmp 26) 48 rfl w.heap.size 105 ia (.agg #[.string ⟨#[]⟩,.slice none 0 0]) 2 40 Tryz.underlying48 hia ha0 ha1 ha2 rfl (by decide) (.slice ja k jc) k _ rfl (HJ6.out.alloc _) ⟨_,0,none⟩ 1 1 [.string ⟨a.rel.toArray⟩,.slice va6 a.ts.length vc6] rfl rfl (World.news_of_block (Blk.new _ _ _)) (by simp [Value.oneCell']) (by decide) (by unfold maxLen;omega) (by omega) (by simp;have:=HB6.out.size;omega) _ rfl ?_;intro g3 cap3 wi hown3 hgrow3 hat3 hlt3;have yi:=(HY6.out.alloc (.cells #[.string ⟨a.rel.toArray⟩,.slice va6 a.ts.length vc6] 105)).grown hgrow3 (fun e=>own_blk_ne HJ6.out HY6.out (by decide) (Eq.symm e));have z2:=yi.cell 2;have zf:=yi.frozen 2;have zl:=yi.lt;simp only[List.getElem?_toArray,List.getElem?_cons_zero,List.getElem?_cons_succ] at z2;have HYI:=Lib.hid yi;clear yi))
    all_goals
     have mi:MT 0 [105] w6 wi:=((MT.refl w6).alloc _).grown hgrow3 (HJ6.out.alloc _) (by simp) (Nat.zero_le _)
     have ms:MT 0 [50] wi (wi.setCell ⟨y,2,none⟩ (.slice (some ⟨g3,0,none⟩) (k+1) cap3)):=MT.setCell (MT.refl wi) HYI.out (by simp) (Nat.zero_le _) _
     have hj2:=ms.ownsRow hown3 (by decide)
     have hno:(wi.setCell ⟨y,2,none⟩ (.slice (some ⟨g3,0,none⟩) (k+1) cap3)).ownsRow w.heap.size 113 4 (.slice va6 a.ts.length vc6) a.ts.length (a.ts.flatMap Trm.cells):=by
      rw[<-map_flat]
      exact ms.ownsRow (mi.ownsRow (World.ownsRow.low HO6.out HB.out.size) (by decide)) (by decide)
     have ha2:All2 (AtmO w.heap.size (wi.setCell ⟨y,2,none⟩ (.slice (some ⟨g3,0,none⟩) (k+1) cap3))) (rows++[[.string ⟨a.rel.toArray⟩,.slice va6 a.ts.length vc6]]) (al.take (k+1)):=by
      rw[List.take_add_one,HAT.out]
      exact All2.snoc ⟨_,rfl,hno⟩ (HA.out.1.mono fun b x h=>((h.mt HM6.out (by simp)).mt mi (by decide)).mt ms (by decide))
     have hap:Aprt (rows++[[.string ⟨a.rel.toArray⟩,.slice va6 a.ts.length vc6]]):=Aprt.snoc (b0:=0) HA.out.2 HA.out.1 (fun q hq=>(World.ownsRow.lt HO6.out q hq).1)
     have HAP:=Lib.hid hap
     clear hap
     have hos:=ms.ownsRow (mi.ownsRow (HM6.out.ownsRow HOS.out (by simp)) (by decide)) (by decide)
     have hy2:=HYI.out.set_ 2 (.slice (some ⟨g3,0,none⟩) (k+1) cap3)
     have hx2:=((HX6.out.alloc (.cells #[.string ⟨a.rel.toArray⟩,.slice va6 a.ts.length vc6] 105)).grown hgrow3 (fun e=>own_blk_ne HJ6.out HX6.out (by decide) (Eq.symm e))).far (p:=⟨y,2,none⟩) (show w.heap.size≠y by omega) (.slice (some ⟨g3,0,none⟩) (k+1) cap3)
     have hrb:=HRB.out.mt HM6.out (by simp)
     have hr2:=((hrb.alloc (.cells #[.string ⟨a.rel.toArray⟩,.slice va6 a.ts.length vc6] 105)).grown hgrow3 (fun e=>own_blk_ne HJ6.out hrb (by decide) (Eq.symm e))).far (p:=⟨y,2,none⟩) (show w.heap.size+1≠y by omega) (.slice (some ⟨g3,0,none⟩) (k+1) cap3)
     have hb2:=((balloc HB6.out (.cells #[.string ⟨a.rel.toArray⟩,.slice va6 a.ts.length vc6] 105)).grown hgrow3 (by simp;have:=HB6.out.size;omega) (fun q hq=>(HJ6.out.lt q hq).1)).setCell (p:=⟨y,2,none⟩) (show w.heap.size<=y by omega) (.slice (some ⟨g3,0,none⟩) (k+1) cap3)
     have HJ2:=Lib.hid hj2
     have HA2:=Lib.hid ha2
     have HOS2:=Lib.hid hos
     have HY2:=Lib.hid hy2
     have HX2:=Lib.hid hx2
     have HR2:=Lib.hid hr2
     have HB2:=Lib.hid hb2
     clear mi ms hj2 hno ha2 hos hy2 hx2 hrb hr2 hb2 hown3 hgrow3 hat3 hlt3 z2 zf zl
     go_wp2_with fail
     go_roundw
     case rel=>exact⟨k+1,_,_,by omega,by go_num,Lib.hid (by rw[List.flatten_append];simpa using HJ2.out),Lib.hid ⟨HA2.out,HAP.out⟩,HOS2,Lib.hid (by simpa using HY2.out),HX2,HR2,HB2⟩
     case measure=>simp [intOf];omega
   ·obtain rfl:k=n:=by omega
    have y0:=HY.out.cell 0
    have y1:=HY.out.cell 1
    simp only[List.getElem?_toArray,List.getElem?_cons_zero,List.getElem?_cons_succ] at y0 y1
    have ha:=HA.out.1
    rw[List.take_of_length_le (by rw[HN.out];exact Nat.le_refl _)] at ha
    have HAA:=Lib.hid ha
    clear ha
    go_wp2_with (refine wpList_store_blk rfl 50 _ _ rfl (w.heap.size+1) 50 _ _ rfl rfl HRB.out (by kernel_rfl) rfl (by simp [Value.oneCell']) ?_)
    intro w9 hb9 hm9 hz9
    have r0:=hb9.cell 0
    have r1:=hb9.cell 1
    have r2:=hb9.cell 2
    simp only[List.getElem?_toArray,List.getElem?_cons_zero,List.getElem?_cons_succ] at r0 r1 r2
    have m9:MT 0 [50] wr w9:=MT.ofMod hm9 HRB.out (by simp) (Nat.zero_le _)
    have HB9:=Lib.hid (Mod.own HB.out hm9 (by omega))
    have HS9:Hid (OwnS w.heap.size w9 (.slice va hd.length vc) hd):=Lib.hid (m9.ownsRow HOS.out (by decide))
    have HJ9:=Lib.hid (m9.ownsRow HJ.out (by decide))
    have HA9:=Lib.hid (HAA.out.mono fun b x h=>h.mt m9 (by decide))
    have HLN:=Lib.hid HS.out.len
    clear hb9 hm9 hz9 m9
    go_wp2_with fail
    refine bodyPost_ret (v:=.agg #[.string name,.slice va hd.length vc,.slice ja k jc]) (by simp [results,Tryz.results30,go_sem, *]) rfl ⟨_,_,rows,rfl,HS9.out,by rw[HN.out];exact HJ9.out,HA9.out,HA.out.2,HB9.out⟩
end Go.Proofs.YtgopfpjinohncaaGreatDoor
