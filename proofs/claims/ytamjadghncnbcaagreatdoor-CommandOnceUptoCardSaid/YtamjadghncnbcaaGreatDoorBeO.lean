/- osierref10.Copy, walked. -/
import Derived.Test.YtamjadghncnbcaaGreatDoorBcO
import Derived.Test.YtamjadghncnbcaaGreatDoorDpO
import Derived.Test.YtamjadghncnbcaaGreatDoorGmO
import Derived.Test.YtamjadghncnbcaaGreatDoorCyO
import Derived.Deep.RegionLaw
namespace Go.Proofs.YtamjadghncnbcaaGreatDoor
open Go.RowKit
set_option linter.unusedVariables false
set_option maxHeartbeats 8000000 in
set_option maxRecDepth 100000 in
theorem copyB_any (w:World) (v:Value) (l:List Chg) (h:ChgsAt w v l) (hn:l.length<=2932031007402) :
 Calls Tryz.prog 30 #[v] w fun e w'=>∃ v',e=.returned v'/\ChgsOwn w.heap.size w' v' l/\Below w.heap.size w w':=by
 obtain⟨ic,hic,hc0,hc1,hc2⟩:=info_parts Tryz.infoChg
 obtain⟨ad,cap,rfl,hnc,hcm⟩:=h.form
 unfold maxLen at hcm
 have HR:=Lib.hid h
 clear h
 generalize hN:l.length=n at *
 have HN:=Lib.hid hN
 clear hN
 go_enter Tryz.func30,Tryz.ntmps30
 go_wp2_with (at_make;refine wpList_make_full _ rfl _ _ 30 rfl w.heap.size 51 ic (.agg #[.bool false,.string ⟨#[]⟩,.slice none 0 0]) 3 Tryz.underlying30 hic hc0 hc1 _ _ _ _ n rfl rfl rfl rfl ?b2 ?b3 ?b4 ?_)
 case b2=>first | omega | (rw[hc2];omega)
 case b3=>unfold maxLen;omega
 try (case b4=>omega)
 intro w5 hown5 hgrow5
 obtain⟨rows0,hr0,hr1,hr2⟩:=split_rows 3 n _ hown5.1
 rw[<-hr2] at hown5
 have hb5:Below w.heap.size w w5:=Below.grown (Below.refl _ _) hgrow5 (Nat.le_refl _) (fun q hq=>by cases hq)
 have HO5:=Lib.hid hown5
 have HB5:=Lib.hid hb5
 have HRL:=Lib.hid (And.intro hr0 hr1)
 clear hown5 hgrow5 hb5 hr0 hr1 hr2
 go_wp2_with fail
 go_loopw [4] (fun i wr=>∃ (k:Nat) (rows:List (List Value)),k<=n/\i=.int .i64 k/\Hid (wr.ownsRow w.heap.size 51 3 (.slice (some ⟨w.heap.size,0,none⟩) n n) n rows.flatten)/\Hid (rows.length=n/\∀ x∈rows,x.length=3)/\Hid (All2 (ChgO w.heap.size wr) (rows.take k) (l.take k))/\Hid (Below w.heap.size w wr)) (fun i _=>n - (intOf i).toNat)
 case atStart=>exact⟨0,rows0,Nat.zero_le _,rfl,HO5,HRL,Lib.hid trivial,HB5⟩
 case round =>
  obtain⟨k,rows,hk,rfl,OW,RL,AL,BW⟩:=hrel
  obtain⟨wo,rfl⟩:∃ wo:World,wo=wr:=⟨_,rfl⟩
  by_cases hkn:k<n
  ·obtain⟨c,hc⟩:∃ c,l[k]? = some c:=⟨l[k]'(by rw[HN.out];exact hkn),List.getElem?_eq_getElem (by rw[HN.out];exact hkn)⟩
   obtain⟨b,off,cap',rv,hv,_,_,hbl,q0,q1,q2,hrow,hrl⟩:=(HR.out.keep BW.out).get hc
   rw[HN.out] at hv
   simp only[Value.slice.injEq,true_and] at hv
   obtain⟨rfl,rfl⟩:=hv
   obtain⟨ra,rc,rfl,_,_⟩:=hrow.form
   have hdk:decide ((k:Int)<0)=false:=by simp
   have hdn:decide ((n:Int)<=(k:Int))=false:=by simp;omega
   have hcr:=fun W (hW:Below wo.heap.size wo W)=>copyRow_any W _ c.row (hrow.keep hW) hrl
   have HCR:=Lib.hid hcr
   have HCC:=Lib.hid hc
   have hbw:=BW.out.size
   clear hc hrow hcr
   generalize (c.row.map Vl.cells).length=rn at *
   go_wp2_with fail
   first
    | go_region_law (go_simp;go_at_call 100;refine (HCR.out _ (bdrew (Below.refl _ _))).mono ?_;rintro e w6 ⟨u6,rfl,hown6,hb6⟩;obtain⟨ua,uc,rfl⟩:=own_sl hown6;have B6:Below wo.heap.size wo w6:=bt2 (bdrew (Below.refl _ _)) hb6;have q06:=(B6.cell (p:=⟨b,off+k * 3,none⟩) hbl).trans q0;have q16:=(B6.cell (p:=⟨b,off+k * 3+1,none⟩) hbl).trans q1;have o6:=(MT.ofBelow (B:=0) (Ts:=[]) B6).ownsRow OW.out (by simp);obtain⟨⟨y0,hy0⟩,hz0,hgl⟩:=own_cell o6 hkn (j:=0) (by decide);obtain⟨⟨y1,hy1⟩,hz1,_⟩:=own_cell o6 hkn (j:=1) (by decide);obtain⟨⟨y2,hy2⟩,hz2,_⟩:=own_cell o6 hkn (j:=2) (by decide);simp only[Nat.add_zero] at hy0 hz0;have hbl6:=Nat.lt_of_lt_of_le hbl B6.size;have HO6:=Lib.hid o6;have HW6:=Lib.hid hown6;have HB6:=Lib.hid B6;clear o6 hown6 hb6 B6)
    | fail "no way"
   all_goals
    have hs:=own_set3 (a:=.bool c.add) (b:=.string ⟨c.rel.toArray⟩) (c:=.slice ua c.row.length uc) HO6.out RL.out.2 RL.out.1 hkn rfl rfl rfl
    have m6:=mt_own (Ts:=[51]) hs.2 HO6.out (by simp)
    have hall:∀ W',MT 0 [51] w6 W'->All2 (ChgO w.heap.size W') ((rows.set k [.bool c.add,.string ⟨c.rel.toArray⟩,.slice ua c.row.length uc]).take (k+1)) (l.take (k+1)):=by
     intro W' m6
     rw[set_take (by rw[RL.out.1];exact hkn),List.take_add_one,HCC.out]
     exact All2.snoc ⟨_,rfl,m6.ownsRow (World.ownsRow.low HW6.out hbw) (by decide)⟩ (AL.out.mono fun q a hh=>(hh.mt (MT.ofBelow (B:=0) (Ts:=[]) HB6.out) (by simp)).mt m6 (by decide))
    have HS:=Lib.hid hs.1
    have HAL:=Lib.hid (hall _ m6)
    have HB7:=Lib.hid (Mod.own (BW.out.trans (HB6.out.mono hbw)) hs.2 (Nat.le_refl _))
    clear hs m6 hall hy0 hy1 hy2 hz0 hz1 hz2
    go_wp2_with fail
    go_roundw
    case rel=>exact⟨k+1,_,by omega,by go_num,HS,Lib.hid ⟨by rw[List.length_set];exact RL.out.1,set_all RL.out.2 rfl⟩,HAL,HB7⟩
    case measure=>simp [intOf];omega
  ·obtain rfl:k=n:=by omega
   have hal:=AL.out
   rw[List.take_of_length_le (by rw[RL.out.1];exact Nat.le_refl _),List.take_of_length_le (by rw[HN.out];exact Nat.le_refl _)] at hal
   have HAL:=Lib.hid hal
   clear hal
   go_wp2_with fail
   go_ret
   exact⟨_,rfl,⟨rows,by rw[HN.out];exact OW.out,HAL.out⟩,BW.out⟩
end Go.Proofs.YtamjadghncnbcaaGreatDoor
