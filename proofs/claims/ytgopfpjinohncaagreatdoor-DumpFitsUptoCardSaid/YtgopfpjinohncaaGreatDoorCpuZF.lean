/- slices.CompactFunc at Row, walked (printed by mkcpt.py). -/
import Derived.Test.YtgopfpjinohncaaGreatDoorRwsZF
set_option maxHeartbeats 1000000
set_option maxRecDepth 100000
set_option linter.unusedVariables false
namespace Go.Proofs.YtgopfpjinohncaaGreatDoor
open Go.Proofs.Tryz
open Go.RowKit
theorem rf (w0 w:World) (g n cap:Nat) (M:List (List Vl)) (h:Ey w0 w g n cap M) (hn:M.length=n) (hM:n<=8796093022208) :
 Calls prog 94 #[.slice (some ⟨g,0,none⟩) n cap,.func (.func 95) #[] #[]] w fun e w'=>∃ n',e=.returned (.slice (some ⟨g,0,none⟩) n' cap)/\n'<=n/\Ey w0 w' g n' cap (cy (cd M) 0 M)/\(cy (cd M) 0 M).length=n':=by
 have hnot:∀ (x:Bool) (w:World),(Op.unary .not (.bool x)).run prog w=.ok (.bool (!x)) w:=fun _ _=>rfl
 obtain⟨rows,hro,hall,hbw⟩:=h
 have hll:=hall.length
 rw[hn] at hll
 obtain⟨FM,hFM⟩:∃ FM,FM=cy (cd M) 0 M:=⟨_,rfl⟩
 rw[<-hFM]
 obtain⟨hgl,hgb,hcap⟩:g<w.heap.size/\w0.heap.size<=g/\n<=cap:=by
  rcases hro.2 with ⟨q,_⟩ | ⟨g',_,_,hv,hb,hg,hc,_⟩
  ·simp at q
  ·simp only[Value.slice.injEq,Option.some.injEq,Addr.mk.injEq,and_true,true_and] at hv
   obtain⟨rfl,rfl⟩:=hv
   exact⟨(Array.getElem?_eq_some_iff.1 hg).1,hb,hc⟩
 have HRO:=Fx hro
 have HALL:=Fx hall
 have HBW:=Fx hbw
 have HFM:=Fx hFM
 have HLL:=Fx hll
 have HN:=Fx hn
 have HG:=Fx (And.intro hgl (And.intro hgb hcap))
 clear hro hall hbw hFM hll hn
 by_cases hn2:n<2
 ·have hd2:decide ((n:Int)<2)=true:=by simp;omega
  go_enter func94,ntmps94
  go_wp2_with fail
  go_ret
  refine⟨n,rfl,FA,?_,?_⟩
  ·rw[HFM.out,ub (by rw[HN.out];exact hn2)]
   exact⟨rows,HRO.out,HALL.out,HBW.out⟩
  ·rw[HFM.out,ub (by rw[HN.out];exact hn2),HN.out]
 have hd2:decide ((n:Int)<2)=false:=by simp;omega
 go_enter func94,ntmps94
 go_wp2_with fail
 go_loopw [5,6,7] (fun kv _ _ wr=>∃ j k:Nat,k=j+1/\k<=n/\kv=.int .i64 k/\Hid (∀ q,q<k->cd M q=false)/\Hid (Below w.heap.size w wr)) (fun kv _ _ _=>n - (intOf kv).toNat)
 case atStart=>exact⟨0,1,rfl,by omega,rfl,Fx (fun q hq=>by obtain rfl:q=0:=(by omega);rfl),Fx Fy⟩
 case round =>
  obtain⟨j,k,hjk,hkn,rfl,HP,HB⟩:=hrel
  obtain⟨wo,rfl⟩:∃ wo:World,wo=wr:=⟨_,rfl⟩
  by_cases hlt:k<n
  ·obtain⟨a,ha⟩:∃ a,M[k]? = some a:=⟨M[k]'(by rw[HN.out];exact hlt),FD (by rw[HN.out];exact hlt)⟩
   obtain⟨b,hb⟩:∃ b,M[j]? = some b:=⟨M[j]'(by rw[HN.out];omega),FD (by rw[HN.out];omega)⟩
   obtain⟨x,hx,hxa⟩:=HALL.out.get ha
   obtain⟨y,hy,hyb⟩:=HALL.out.get hb
   have hit:cd M k=decide (aw a b=0):=by
    subst hjk
    exact iF ha hb
   obtain⟨xa,xc,hxe,_,_⟩:=hxa.1.form
   obtain⟨ya,yc,hye,_,_⟩:=hyb.1.form
   rw[List.length_map] at hxe hye
   subst hxe hye
   have q0:=(HB.out.cell (p:=⟨g,k,none⟩) HG.out.1).trans (dU HRO.out hx).1
   have q1:=(HB.out.cell (p:=⟨g,j,none⟩) HG.out.1).trans (dU HRO.out hy).1
   have gl:g<wo.heap.size:=Nat.lt_of_lt_of_le HG.out.1 HB.out.size
   have hsub:IntKind.i64.wrap ((k:Int) - 1)=(j:Int):=by rw[IntKind.wrap_i64];omega
   have hd1:decide ((k:Int)<(n:Int))=true:=by simp;omega
   have hd3:(0:Int)<=(k:Int):=by omega
   have hd4:(k:Int)<(n:Int):=by omega
   have hd5:(0:Int)<=(j:Int):=by omega
   have hd6:(j:Int)<(n:Int):=by omega
   have HJK:=Fx hjk
   clear hjk
   have HIT:=Fx hit
   have HXY:=Fx (And.intro hx hy)
   have HAB:=Fx (And.intro ha hb)
   have HSX:=Fx (fun W (q:Below wo.heap.size wo W)=>pT W a b _ _ (hxa.1.keep (HBW.out.trans ((HB.out.trans (q.mono HB.out.size)).mono HBW.out.size))) (hyb.1.keep (HBW.out.trans ((HB.out.trans (q.mono HB.out.size)).mono HBW.out.size))))
   have HQ0:=Fx q0
   have HQ1:=Fx q1
   have HGL:=Fx gl
   clear hx hy ha hb hxa hyb hit q0 q1
   generalize hcc:decide (aw a b=0)=cc at *
   clear hcc
   go_upto_region 6 with fail
   obtain⟨SS,hSS⟩:∃ SS:World->Prop,SS=fun W'=>Below wo.heap.size wo W':=⟨_,rfl⟩
   have hsd:SS wo.drew:=by rw[hSS];exact ay Fy
   have HSB:=Fx (fun W (q:SS W)=>(by rw[hSS] at q;exact q:Below wo.heap.size wo W))
   have HSM:=Fx (fun W (q:Below wo.heap.size wo W)=>(by rw[hSS];exact q:SS W))
   clear hSS
   have HSS:SS wo.drew:=hsd
   clear hsd
   refine wp_region_held_drew (by kernel_rfl) HSS (fun _=>?_)
   refine Held.take 0 18 (v:=?_) rfl rfl (by kernel_rfl) (by kernel_rfl) (by kernel_rfl) (fun _ _ _ _ h=>h) (by kernel_rfl) HSS ?_ ?_
   rotate_left
   ·intro u hu
    go_simp
    try with_reducible rfl
   try simp only[FG]
   refine Held.take 1 19 (v:=?_) rfl rfl (by kernel_rfl) (by kernel_rfl) (by kernel_rfl) (fun _ _ _ _ h=>h) (by kernel_rfl) HSS ?_ ?_
   rotate_left
   ·intro u hu
    go_simp
    try with_reducible rfl
   try simp only[FG]
   refine Held.take 2 20 (v:=?_) rfl rfl (by kernel_rfl) (by kernel_rfl) (by kernel_rfl) (fun _ _ _ _ h=>h) (by kernel_rfl) HSS ?_ ?_
   rotate_left
   ·intro u hu
    go_simp
    try with_reducible rfl
   try simp only[FG]
   refine Held.take 3 21 (v:=?_) rfl rfl (by kernel_rfl) (by kernel_rfl) (by kernel_rfl) (fun _ _ _ _ h=>h) (by kernel_rfl) HSS ?_ ?_
   rotate_left
   ·intro u hu
    go_simp
    try with_reducible rfl
   try simp only[FG]
   refine Held.take 4 22 (v:=?_) rfl rfl (by kernel_rfl) (by kernel_rfl) (by kernel_rfl) (fun _ _ _ _ h=>h) (by kernel_rfl) HSS ?_ ?_
   rotate_left
   ·intro u hu
    have c0:=((HSB.out u hu).cell (p:=⟨g,k,none⟩) HGL.out).trans HQ0.out
    have cl:g<u.heap.size:=Nat.lt_of_lt_of_le HGL.out (HSB.out u hu).size
    go_simp
    try with_reducible rfl
   try simp only[FG]
   refine Held.take 5 23 (v:=?_) rfl rfl (by kernel_rfl) (by kernel_rfl) (by kernel_rfl) (fun _ _ _ _ h=>h) (by kernel_rfl) HSS ?_ ?_
   rotate_left
   ·intro u hu
    go_simp
    try with_reducible rfl
   try simp only[FG]
   refine Held.take 6 24 (v:=?_) rfl rfl (by kernel_rfl) (by kernel_rfl) (by kernel_rfl) (fun _ _ _ _ h=>h) (by kernel_rfl) HSS ?_ ?_
   rotate_left
   ·intro u hu
    go_simp
    try with_reducible rfl
   try simp only[FG]
   refine Held.take 7 25 (v:=?_) rfl rfl (by kernel_rfl) (by kernel_rfl) (by kernel_rfl) (fun _ _ _ _ h=>h) (by kernel_rfl) HSS ?_ ?_
   rotate_left
   ·intro u hu
    go_simp
    try with_reducible rfl
   try simp only[FG]
   refine Held.take 8 26 (v:=?_) rfl rfl (by kernel_rfl) (by kernel_rfl) (by kernel_rfl) (fun _ _ _ _ h=>h) (by kernel_rfl) HSS ?_ ?_
   rotate_left
   ·intro u hu
    go_simp
    try with_reducible rfl
   try simp only[FG]
   refine Held.take 9 27 (v:=?_) rfl rfl (by kernel_rfl) (by kernel_rfl) (by kernel_rfl) (fun _ _ _ _ h=>h) (by kernel_rfl) HSS ?_ ?_
   rotate_left
   ·intro u hu
    have c0:=((HSB.out u hu).cell (p:=⟨g,j,none⟩) HGL.out).trans HQ1.out
    have cl:g<u.heap.size:=Nat.lt_of_lt_of_le HGL.out (HSB.out u hu).size
    go_simp
    try with_reducible rfl
   try simp only[FG]
   refine Held.one 10 rfl (by kernel_rfl) (fun K hK=>?_)
   go_simp
   refine (HSX.out _ (HSB.out _ HSS)).mono ?_
   rintro e w5 ⟨rfl,hbw5⟩
   have HBw5:=(HSB.out _ HSS).trans (hbw5.mono (HSB.out _ HSS).size)
   refine hK.out _ _ (HSM.out _ HBw5) ?_
   clear hK K HSS hbw5
   try simp only[FG]
   refine wpAnyH_done (by kernel_rfl) ?_ _
   have HB5:=Fx (HB.out.trans (HBw5.mono HB.out.size))
   clear HBw5 HSB HSM
   cases cc with
   | false =>
     go_wp2_with fail
     go_roundw
     case rel =>
      refine⟨k,k+1,rfl,by omega,by go_num,Fx (fun q hq=>?_),HB5⟩
      rcases Nat.lt_or_ge q k with h1 | h1
      ·exact HP.out q h1
      ·obtain rfl:q=k:=by omega
       exact HIT.out
     case measure=>simp [intOf];omega
   | true =>
     have hs0:rows.take k=cy (cd M) 0 (rows.take (k+1)):=by
      have hlt':(rows.take k).length=k:=by rw[List.length_take,HLL.out];omega
      rw[List.take_add_one,HXY.out.1]
      show _=cy (cd M) 0 (rows.take k++[_])
      rw[jC,hlt',Nat.zero_add,if_pos HIT.out,List.append_nil,ft 0 _ (fun q _ hq=>HP.out q (by rw[hlt'] at hq;omega))]
     have HS0:=Fx hs0
     clear hs0 hd3 hd4 hd5 hd6 hd1 hsub
     go_wp2_with fail
     generalize hm:n - k=m at *
     generalize hc2:cap - k=c2 at *
     have HMC:=Fx (And.intro hm hc2)
     clear hm hc2
     go_loopw [5,7] (fun iv tv wr=>∃ (i t:Nat) (R:List Value),i<k+t/\1<=t/\k+t<=n/\iv=.int .i64 i/\tv=.int .i64 t/\Hid (wr.ownsRow w0.heap.size 59 1 (.slice (some ⟨g,0,none⟩) n cap) n R)/\Hid (R.take i=cy (cd M) 0 (rows.take (k+t)))/\Hid (R.drop (k+t - 1)=rows.drop (k+t - 1))/\Hid (aq (fun q=>q=g) w wr)) (fun _ tv _=>n - (intOf tv).toNat)
     case atStart=>exact⟨k,1,rows,by omega,by omega,by omega,rfl,by first | rfl | go_num,Fx ((MT.ofBelow (B:=0) (Ts:=[]) HB5.out).ownsRow HRO.out (by simp)),HS0,Fx rfl,Fx (aq.ofBelow HB5.out)⟩
     case round =>
      obtain⟨i,t,R,hik,ht1,hkt,rfl,rfl,HO,HT,HD,HM1⟩:=hrel
      obtain⟨w6,rfl⟩:∃ w6:World,w6=wr:=⟨_,rfl⟩
      have hnk:=HMC.out.1
      have hRl:R.length=n:=by have:=HO.out.1;omega
      have HRL:=Fx hRl
      clear hRl
      by_cases hlt2:k+t<n
      ·obtain⟨t1,htt⟩:∃ t1,t=t1+1:=⟨t - 1,by omega⟩
       obtain⟨a2,ha⟩:∃ a2,M[k+t]? = some a2:=⟨M[k+t]'(by rw[HN.out];exact hlt2),FD (by rw[HN.out];exact hlt2)⟩
       obtain⟨b2,hb⟩:∃ b2,M[k+t1]? = some b2:=⟨M[k+t1]'(by rw[HN.out];omega),FD (by rw[HN.out];omega)⟩
       obtain⟨x2,hx,hxa⟩:=HALL.out.get ha
       obtain⟨y2,hy,hyb⟩:=HALL.out.get hb
       have hit2:cd M (k+t)=decide (aw a2 b2=0):=by
        subst htt
        exact iF ha hb
       have hpos:k+t - 1=k+t1:=by omega
       have hD:=HD.out
       rw[hpos] at hD
       have hyR:R[k+t1]? = some y2:=by
        have h1:(R.drop (k+t1))[0]? = (rows.drop (k+t1))[0]? := by rw[hD]
        rw[List.getElem?_drop,List.getElem?_drop,Nat.add_zero] at h1
        rw[h1,hy]
       have hxR:R[k+t]? = some x2:=by
        have h1:(R.drop (k+t1))[1]? = (rows.drop (k+t1))[1]? := by rw[hD]
        rw[List.getElem?_drop,List.getElem?_drop,show k+t1+1=k+t by omega] at h1
        rw[h1,hx]
       have hkn:cy (cd M) 0 (rows.take (k+t+1))=cy (cd M) 0 (rows.take (k+t))++if decide (aw a2 b2=0) then [] else [x2]:=by
        have hlj:(rows.take (k+t)).length=k+t:=by rw[List.length_take,HLL.out];omega
        rw[List.take_add_one,hx]
        show cy (cd M) 0 (rows.take (k+t)++[_])=_
        rw[jC,hlj,Nat.zero_add,hit2]
       have hbw6:Below w0.heap.size w0 w6:=HBW.out.trans (HM1.out.below HBW.out.size (fun q hq=>by rw[hq];exact HG.out.2.1))
       obtain⟨xa,xc,hxe,_,_⟩:=hxa.1.form
       obtain⟨ya,yc,hye,_,_⟩:=hyb.1.form
       rw[List.length_map] at hxe hye
       subst hxe hye
       have q0:=dU HO.out hxR
       have q1:=dU HO.out hyR
       have hd1:decide ((t:Int)<(m:Int))=true:=by simp;omega
       have hd3:(0:Int)<=(t:Int):=by omega
       have hd4:(t:Int)<(m:Int):=by omega
       have hd5:(0:Int)<=(t1:Int):=by omega
       have hd6:(t1:Int)<(m:Int):=by omega
       have hsub:IntKind.i64.wrap ((t:Int) - 1)=(t1:Int):=by rw[IntKind.wrap_i64];omega
       have HTT:=Fx htt
       have HXR:=Fx hxR
       have HKN:=Fx hkn
       have HDD:=Fx (show R.drop (k+t)=rows.drop (k+t) by
        rw[show k+t=k+t1+1 by omega,<-List.tail_drop,<-List.tail_drop,hD])
       have HSX:=Fx (fun W (q:Below w6.heap.size w6 W)=>pT W a2 b2 _ _ (hxa.1.keep (hbw6.trans (q.mono hbw6.size))) (hyb.1.keep (hbw6.trans (q.mono hbw6.size))))
       have HQ0:=Fx q0.1
       have HQ1:=Fx q1.1
       have HGL:=Fx q0.2
       clear htt ha hb hx hy hxa hyb hit2 hpos hD hyR hxR hkn hbw6 q0 q1
       generalize hcc:decide (aw a2 b2=0)=c3 at *
       clear hcc
       go_upto_region 11 with fail
       obtain⟨SS,hSS⟩:∃ SS:World->Prop,SS=fun W'=>Below w6.heap.size w6 W':=⟨_,rfl⟩
       have hsd:SS w6.drew:=by rw[hSS];exact ay Fy
       have HSB:=Fx (fun W (q:SS W)=>(by rw[hSS] at q;exact q:Below w6.heap.size w6 W))
       have HSM:=Fx (fun W (q:Below w6.heap.size w6 W)=>(by rw[hSS];exact q:SS W))
       clear hSS
       have HSS:SS w6.drew:=hsd
       clear hsd
       refine wp_region_held_drew (by kernel_rfl) HSS (fun _=>?_)
       refine Held.take 0 38 (v:=?_) rfl rfl (by kernel_rfl) (by kernel_rfl) (by kernel_rfl) (fun _ _ _ _ h=>h) (by kernel_rfl) HSS ?_ ?_
       rotate_left
       ·intro u hu
        go_simp
        try with_reducible rfl
       try simp only[FG]
       refine Held.take 1 39 (v:=?_) rfl rfl (by kernel_rfl) (by kernel_rfl) (by kernel_rfl) (fun _ _ _ _ h=>h) (by kernel_rfl) HSS ?_ ?_
       rotate_left
       ·intro u hu
        go_simp
        try with_reducible rfl
       try simp only[FG]
       refine Held.take 2 40 (v:=?_) rfl rfl (by kernel_rfl) (by kernel_rfl) (by kernel_rfl) (fun _ _ _ _ h=>h) (by kernel_rfl) HSS ?_ ?_
       rotate_left
       ·intro u hu
        go_simp
        try with_reducible rfl
       try simp only[FG]
       refine Held.take 3 41 (v:=?_) rfl rfl (by kernel_rfl) (by kernel_rfl) (by kernel_rfl) (fun _ _ _ _ h=>h) (by kernel_rfl) HSS ?_ ?_
       rotate_left
       ·intro u hu
        go_simp
        try with_reducible rfl
       try simp only[FG]
       refine Held.take 4 42 (v:=?_) rfl rfl (by kernel_rfl) (by kernel_rfl) (by kernel_rfl) (fun _ _ _ _ h=>h) (by kernel_rfl) HSS ?_ ?_
       rotate_left
       ·intro u hu
        have c0:=((HSB.out u hu).cell (p:=⟨g,k+t,none⟩) HGL.out).trans HQ0.out
        have cl:g<u.heap.size:=Nat.lt_of_lt_of_le HGL.out (HSB.out u hu).size
        go_simp
        try with_reducible rfl
       try simp only[FG]
       refine Held.take 5 43 (v:=?_) rfl rfl (by kernel_rfl) (by kernel_rfl) (by kernel_rfl) (fun _ _ _ _ h=>h) (by kernel_rfl) HSS ?_ ?_
       rotate_left
       ·intro u hu
        go_simp
        try with_reducible rfl
       try simp only[FG]
       refine Held.take 6 44 (v:=?_) rfl rfl (by kernel_rfl) (by kernel_rfl) (by kernel_rfl) (fun _ _ _ _ h=>h) (by kernel_rfl) HSS ?_ ?_
       rotate_left
       ·intro u hu
        go_simp
        try with_reducible rfl
       try simp only[FG]
       refine Held.take 7 45 (v:=?_) rfl rfl (by kernel_rfl) (by kernel_rfl) (by kernel_rfl) (fun _ _ _ _ h=>h) (by kernel_rfl) HSS ?_ ?_
       rotate_left
       ·intro u hu
        go_simp
        try with_reducible rfl
       try simp only[FG]
       refine Held.take 8 46 (v:=?_) rfl rfl (by kernel_rfl) (by kernel_rfl) (by kernel_rfl) (fun _ _ _ _ h=>h) (by kernel_rfl) HSS ?_ ?_
       rotate_left
       ·intro u hu
        go_simp
        try with_reducible rfl
       try simp only[FG]
       refine Held.take 9 47 (v:=?_) rfl rfl (by kernel_rfl) (by kernel_rfl) (by kernel_rfl) (fun _ _ _ _ h=>h) (by kernel_rfl) HSS ?_ ?_
       rotate_left
       ·intro u hu
        have c0:=((HSB.out u hu).cell (p:=⟨g,k+t1,none⟩) HGL.out).trans HQ1.out
        have cl:g<u.heap.size:=Nat.lt_of_lt_of_le HGL.out (HSB.out u hu).size
        go_simp
        try with_reducible rfl
       try simp only[FG]
       refine Held.one 10 rfl (by kernel_rfl) (fun K hK=>?_)
       go_simp
       refine (HSX.out _ (HSB.out _ HSS)).mono ?_
       rintro e w7 ⟨rfl,hbw7⟩
       have HBw7:=(HSB.out _ HSS).trans (hbw7.mono (HSB.out _ HSS).size)
       refine hK.out _ _ (HSM.out _ HBw7) ?_
       clear hK K HSS hbw7
       try simp only[FG]
       have HSS:=HSM.out _ HBw7
       refine Held.one 11 rfl (by kernel_rfl) (fun K hK=>?_)
       go_simp
       refine hK.out _ _ HSS ?_
       clear hK K
       try simp only[FG]
       refine wpAnyH_done (by kernel_rfl) ?_ _
       have ho7:=(MT.ofBelow (B:=0) (Ts:=[]) HBw7).ownsRow HO.out (by simp)
       have HM7:=Fx (HM1.out.trans (aq.ofBelow (F:=fun q=>q=g) HBw7) (fun _ _ h=>h))
       have HO7:=Fx ho7
       clear HSS HSB HSM
       cases c3 with
       | true =>
         clear ho7
         go_wp2_with fail
         go_roundw
         case rel=>exact⟨i,t+1,R,by omega,by omega,by omega,rfl,by go_num,HO7,Fx (by rw[HT.out,<-Nat.add_assoc,HKN.out];simp),Fx HDD.out,HM7⟩
         case measure=>simp [intOf];omega
       | false =>
         obtain⟨z,hz⟩:∃ z,R[i]? = some z:=⟨R[i]'(by rw[HRL.out];omega),FD (by rw[HRL.out];omega)⟩
         have z0:=dU ho7 hz
         have zf:=ho7.frozenAt i
         have zx:=dU ho7 HXR.out
         have hs:=ow ho7 i (.slice xa a2.length xc)
         have he1:(0:Int)<=(i:Int):=by omega
         have he2:(i:Int)<(n:Int):=by omega
         have HS:=Fx hs
         have zg:=z0.2
         have z1:=z0.1
         have z2:=zx.1
         clear ho7 hz hs z0 zx
         go_wp2_with fail
         go_roundw
         case rel =>
          refine⟨i+1,t+1,R.set i _,by omega,by omega,by omega,by go_num,by go_num,Fx HS.out.1,Fx ?_,Fx ?_,Fx (HM7.out.trans HS.out.2 (fun _ _ h=>h))⟩
          ·rw[fl (by rw[HRL.out];omega),HT.out,<-Nat.add_assoc,HKN.out]
           rfl
          ·show (R.set i _).drop (k+t)=rows.drop (k+t)
           rw[List.drop_set_of_lt (by omega),HDD.out]
         case measure=>simp [intOf];omega
      ·have hkn:k+t=n:=by omega
       obtain⟨w9,hcl,hown9,hm9⟩:=tA (P:=prog) (t:=45) (c:=cap - i) underlying45 Cm rfl rfl HO.out (show i<n by omega)
       have hT:=HT.out
       rw[hkn,List.take_of_length_le (l:=rows) (by rw[HLL.out];exact FA)] at hT
       have ha2:=oA (p:=cd M) 0 HALL.out
       rw[<-HFM.out,<-hT] at ha2
       have hln:FM.length=i:=by
        rw[<-ha2.length,List.length_take,HRL.out]
        omega
       have HW9:=Fx (And.intro hown9 hm9)
       have HA2:=Fx ha2
       have HLN:=Fx hln
       have hd0:decide ((t:Int)<(m:Int))=false:=by simp;omega
       have hdi:decide ((i:Int)<0)=false:=by simp
       have hdc:decide ((cap:Int)<(i:Int))=false:=by have:=HG.out.2.2;simp;omega
       have hdn2:decide ((n:Int)<(i:Int))=false:=by simp;omega
       clear hown9 hm9 hT ha2 hln
       go_wp2_with fail
       go_ret
       refine⟨i,rfl,by omega,⟨R.take i,HW9.out.1,HA2.out,?_⟩,HLN.out⟩
       have hmm:=HM1.out.trans HW9.out.2 (fun _ _ h=>h)
       exact HBW.out.trans (hmm.below HBW.out.size (fun q hq=>by rw[hq];exact HG.out.2.1))
  ·obtain rfl:k=n:=by omega
   have hd1:decide ((k:Int)<(k:Int))=false:=by simp
   go_wp2_with fail
   go_ret
   refine⟨k,rfl,FA,?_,?_⟩
   ·rw[HFM.out,ft 0 M (fun q _ hq=>HP.out q (by rw[HN.out] at hq;omega))]
    exact⟨rows,(MT.ofBelow (B:=0) (Ts:=[]) HB.out).ownsRow HRO.out (by simp),HALL.out,HBW.out.trans (HB.out.mono HBW.out.size)⟩
   ·rw[HFM.out,ft 0 M (fun q _ hq=>HP.out q (by rw[HN.out] at hq;omega)),HN.out]
