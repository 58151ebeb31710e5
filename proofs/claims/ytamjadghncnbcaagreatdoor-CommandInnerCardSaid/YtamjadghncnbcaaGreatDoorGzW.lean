/- query.Parse, walked: the reading. osierlaw09.awake, walked. -/
import Derived.Test.YtamjadghncnbcaaGreatDoorGcW
import Derived.Test.YtamjadghncnbcaaGreatDoorGoW
import Derived.Test.YtamjadghncnbcaaGreatDoorGmW
import Derived.KernelRfl
namespace Go.Proofs.YtamjadghncnbcaaGreatDoor
open Go.RowKit
set_option linter.unusedVariables false
theorem PQ.far {w0 w w':World} {n:Nat} {cs:Array Value} {B:Nat} {Ts:List TypeId} (h:PQ w0 n cs w) (hm:MT B Ts w w') (hB:n+3<=B):PQ w0 n cs w' :=
 h.mt (hm.mono (fun _ h=>h) hB)
set_option maxHeartbeats 8000000 in
set_option maxRecDepth 100000 in
theorem parse_good (s:ByteArray) (w:World) (ts:List Tok) (hop:∀ W,Below w.heap.size w W->Calls Tryz.prog 40 #[.string s] W fun e w'=>∃ r vt,e=.returned (.pointer (some ⟨r,0,none⟩))/\W.heap.size<=r/\Rs w' r ts vt/\Below W.heap.size W w') :
 Calls Tryz.prog 25 #[.string s] w (QPost w (queryT ts)):=by
 obtain⟨i0,hi0,hz0,hz1,hz2⟩:=info_parts Tryz.infoStr
 obtain⟨it,hit,ht0,ht1,ht2⟩:=info_parts Tryz.infoTrm
 obtain⟨ia0,hia,ha0,ha1,ha2⟩:=info_parts Tryz.infoAtm
 have hf4:∀ (a b c d e:Value) (w:World),(Instr.field 148 (.agg #[a,b,c,d,e]) 0).run Tryz.prog w=.ok (.agg #[a,b,c,d]) w:=fun _ _ _ _ _ _=>by kernel_rfl
 have hmf:∀ (fn:Fn) (first cap:Array Value) (w:World),(Instr.makeFunc fn first cap).run Tryz.prog w=.ok (.func fn first cap) w:=fun _ _ _ _=>rfl
 have hfd:∀ (a b:Value) (w:World),(Instr.field 135 (.agg #[a,b]) 0).run Tryz.prog w=.ok a w:=fun _ _ _=>by kernel_rfl
 have hps:=PQ.start w
 have ho:=hop _ hps.b
 have HPS:=Lib.hid hps
 have HO:=Lib.hid ho
 have hQ:∃ Q,Q=queryT ts:=⟨_,rfl⟩
 obtain⟨Q,hQ⟩:=hQ
 rw[<-hQ]
 have HQ:=Lib.hid hQ
 clear hps ho hop hQ
 go_enter_defers Tryz.func25,Tryz.ntmps25
 go_wp2_with fail
 refine HO.out.mono ?_
 rintro e w1 ⟨r,vt,rfl,hr,hrs,hb⟩
 have hp:=HPS.out.keep hb
 have hrB:w.heap.size+3<=r:=by simp at hr;omega
 have hp1:PQ w w.heap.size #[.string ⟨#[]⟩,.slice none 0 0,.slice none 0 0] (w1.alloc (.cells #[.pointer (some ⟨r,0,none⟩)] 80)):=hp.keep (balloc (Below.refl _ _) _)
 have hi:InB (w1.alloc (.cells #[.pointer (some ⟨r,0,none⟩)] 80)) w1.heap.size r:=Blk.new _ _ _
 have hr1:=hrs.keep (balloc (Below.refl _ w1) (.cells #[.pointer (some ⟨r,0,none⟩)] 80))
 have hnb:w.heap.size+3<=w1.heap.size:=hp.s
 have hnm:=name_any (B:=w.heap.size+3) hr1 hrB
 have HP:=Lib.hid hp1
 have HI:=Lib.hid hi
 have HR:=Lib.hid hr1
 have hlen:=hr1.len
 clear hb hp hrs hp1 hi hr1 hr HPS HO
 cases h0:nameP ts with
 | bad a f =>
   have hq:=HQ.out
   unfold queryT at hq
   rw[h0] at hq
   simp only at hq
   subst hq
   rw[h0] at hnm
   have HNM:=Lib.hid hnm
   clear h0 hnm
   go_wp2_with fail
   refine HNM.out.mono ?_
   rintro e w2 ⟨rfl,hm⟩
   have HP2:=Lib.hid (HP.out.mt hm)
   clear hm
   go_wp2_with fail
   exact parse_door HP2.out rfl rfl rfl
 | ok x c1 =>
   have hq:=HQ.out
   unfold queryT at hq
   rw[h0] at hq
   simp only at hq
   have HQ1:=Lib.hid hq
   rw[h0] at hnm
   have HNM:=Lib.hid hnm
   have hl1:=name_less _ _ _ h0
   clear h0 hnm hq HQ
   go_wp2_with fail
   refine HNM.out.mono ?_
   rintro e w2 ⟨v2,rfl,⟨rfl,hr2⟩,hm2⟩
   have hp2:=HP.out.mt hm2
   have hi2:=HI.out.mt hm2 (by decide)
   have k0:=hp2.q.cell 0
   have y0:=hp2.q.frozen 0
   simp at k0
   have hnlt:=hp2.q.lt
   have hp3:=hp2.store 0 (.string ⟨x.1.toArray⟩)
   simp only[Array.setIfInBounds] at hp3
   have m3:MT 0 [29] w2 (w2.setCell ⟨w.heap.size,0,none⟩ (.string ⟨x.1.toArray⟩)):=MT.setCell (MT.refl w2) hp2.q (by simp) (Nat.zero_le _) _
   have hi3:=hi2.mt m3 (by decide)
   have hr3:=hr2.mt m3 (by decide) (by decide)
   have x0:=Blk.cell hi3 0
   simp at x0
   have hnms:=names_any (B:=w.heap.size+3) hi3 hr3 hrB hp3.s
   have HP3:=Lib.hid hp3
   have HI3:=Lib.hid hi3
   have HR3:=Lib.hid hr3
   clear hp2 hi2 hr2 hm2 hp3 m3 hi3 hr3 HP HI HR HNM
   unfold nameV
   cases h1:listP nameP c1 with
   | bad a f =>
     have hq:=HQ1.out
     rw[h1] at hq hnms
     simp only at hq
     subst hq
     have HC:=Lib.hid hnms
     clear h1 hnms
     go_wp2_with fail
     refine HC.out.mono ?_
     rintro e wx ⟨rfl,hm⟩
     have HPX:=Lib.hid (HP3.out.mt hm)
     clear hm
     go_wp2_with fail
     exact parse_door HPX.out rfl rfl rfl
   | ok hs c2 =>
     have hq:=HQ1.out
     rw[h1] at hq hnms
     simp only at hq
     have HQ2:=Lib.hid hq
     have HC:=Lib.hid hnms
     have hl2:=list_less name_less _ _ _ h1
     have hhl:=list_len name_less h1
     clear h1 hnms hq HQ1
     go_wp2_with fail
     refine HC.out.mono ?_
     rintro e w4 ⟨v4,rfl,⟨hown,hi4,hr4⟩,hm4⟩
     obtain⟨ha,hc,rfl⟩:=own_sl hown
     have hp4:=HP3.out.mt hm4
     have HW:=Lib.hid (World.ownsRow.low hown HP3.out.s)
     have x0:=Blk.cell hi4 0
     simp at x0
     have hmk:=mark_rs (B:=w.heap.size+3) (Ts:=[177]) hr4 [58,45] hrB (by simp)
     have HP4:=Lib.hid hp4
     have HI4:=Lib.hid hi4
     clear hown hi4 hr4 hm4 hp4 HP3 HI3 HR3 HC
     cases h2:tk 3 [[58,45]] c2 with
     | bad a f =>
       have hq:=HQ2.out
       rw[h2] at hq hmk
       simp only at hq
       subst hq
       have HC:=Lib.hid hmk
       clear h2 hmk
       go_wp2_with fail
       refine HC.out.mono ?_
       rintro e wx ⟨rfl,hm⟩
       have HPX:=Lib.hid (HP4.out.mt hm)
       clear hm
       go_wp2_with fail
       exact parse_door HPX.out rfl rfl rfl
     | ok t3 c3 =>
       have hq:=HQ2.out
       rw[h2] at hq hmk
       simp only at hq
       have HQ3:=Lib.hid hq
       have HC:=Lib.hid hmk
       have hl3:=tk_less _ _ _ _ _ h2
       clear h2 hmk hq HQ2
       go_wp2_with fail
       refine HC.out.mono ?_
       rintro e w5 ⟨v5,rfl,⟨rfl,hr5⟩,hm5⟩
       have hp5:=HP4.out.mt hm5
       have hi5:=HI4.out.mt hm5 (by decide)
       have HW5:=Lib.hid (hm5.ownsRow HW.out (by decide))
       have x0:=Blk.cell hi5 0
       simp at x0
       have hat:=atoms_any (B:=w.heap.size+3) hi5 hr5 hrB hp5.s
       have HP5:=Lib.hid hp5
       clear hi5 hr5 hm5 hp5 HP4 HI4 HW HC
       unfold Tok.v
       cases h3:someP atomP c3 with
       | bad a f =>
         have hq:=HQ3.out
         rw[h3] at hq hat
         simp only at hq
         subst hq
         have HC:=Lib.hid hat
         clear h3 hat
         go_wp2_with fail
         refine HC.out.mono ?_
         rintro e wx ⟨rfl,hm⟩
         have HPX:=Lib.hid (HP5.out.mt hm)
         clear hm
         go_wp2_with fail
         exact parse_door HPX.out rfl rfl rfl
       | ok l c4 =>
         have hq:=HQ3.out
         rw[h3] at hq hat
         simp only at hq
         have HQ4:=Lib.hid hq
         have HC:=Lib.hid hat
         have hl4:=some_less atom_less _ _ _ h3
         have hal:=some_len atom_less h3
         have htl:=some_all (N:=100000) (Q:=fun x:AtP=>x.2.length<=100001) atom_less (fun c x c' hc hx=>by have:=atom_len hx;omega) (by omega) h3
         clear h3 hat hq HQ3
         go_wp2_with fail
         refine HC.out.mono ?_
         rintro e w6 ⟨v6,rfl,⟨hao,hi6,hr6⟩,hm6⟩
         obtain⟨la,lc,rfl⟩:=hao.sl
         have hp6:=HP5.out.mt hm6
         have HW6:=Lib.hid (hm6.ownsRow HW5.out (by decide))
         have hao2:AtsOwn (w.heap.size+3) w6 (.slice la l.length lc) l:=by
          obtain⟨css,h1,h2⟩:=hao
          exact⟨css,World.ownsRow.low h1 HP5.out.s,h2⟩
         have x0:=Blk.cell hi6 0
         simp at x0
         have htk:=take_rs (B:=w.heap.size+3) (Ts:=[177]) hr6 0 [] _ (tx_nil _) hrB (by simp)
         have HP6:=Lib.hid hp6
         have HA6:=Lib.hid hao2
         clear hao hao2 hi6 hr6 hm6 hp6 HP5 HW5 HC
         cases h4:tk 0 [] c4 with
         | bad a f =>
           have hq:=HQ4.out
           rw[h4] at hq htk
           simp only at hq
           subst hq
           have HC:=Lib.hid htk
           clear h4 htk
           go_wp2_with fail
           refine HC.out.mono ?_
           rintro e wx ⟨rfl,hm⟩
           have HPX:=Lib.hid (HP6.out.mt hm)
           clear hm
           go_wp2_with fail
           exact parse_door HPX.out rfl rfl rfl
         | ok t5 c5 =>
           have hq:=HQ4.out
           rw[h4] at hq htk
           simp only at hq
           have HQ5:=Lib.hid hq
           have HC:=Lib.hid htk
           clear h4 htk hq HQ4
           go_wp2_with fail
           refine HC.out.mono ?_
           rintro e w7 ⟨v7,rfl,⟨rfl,hr7⟩,hm7⟩
           have hp7:=HP6.out.mt hm7
           have HW7:=Lib.hid (hm7.ownsRow HW6.out (by decide))
           have ha7:=HA6.out.mt hm7 (by decide) (by decide)
           have hlm:=limits_any w7 _ l (ha7.row (by omega) (fun x hx=>by have:=htl x hx;omega))
           have HP7:=Lib.hid hp7
           have HA7:=Lib.hid ha7
           clear hr7 hm7 hp7 ha7 HP6 HW6 HA6 HC
           unfold Tok.v
           cases h5:limP l with
           | some q =>
             have hq:=HQ5.out
             unfold chkP at hq
             rw[h5] at hq hlm
             simp only at hq
             subst hq
             have HC:=Lib.hid hlm
             clear h5 hlm
             go_wp2_with fail
             refine HC.out.mono ?_
             rintro e wx ⟨rfl,hm⟩
             have HPX:=Lib.hid (HP7.out.keep hm)
             clear hm
             go_wp2_with fail
             exact parse_door HPX.out rfl rfl rfl
           | none =>
             have hq:=HQ5.out
             unfold chkP at hq
             rw[h5] at hq hlm
             simp only at hq
             have HQ6:=Lib.hid hq
             have HL5:=Lib.hid h5
             have HC:=Lib.hid hlm
             clear h5 hlm hq HQ5
             go_wp2_with fail
             refine HC.out.mono ?_
             rintro e w8 ⟨rfl,hm8⟩
             have HP8:=Lib.hid (HP7.out.keep hm8)
             have HW8:=Lib.hid ((MT.ofBelow (B:=0) (Ts:=[]) hm8).ownsRow HW7.out (by simp))
             have HA8:=Lib.hid (HA7.out.mt (MT.ofBelow (B:=0) (Ts:=[]) hm8) (by simp) (by simp))
             clear hm8 HP7 HW7 HA7 HC
             generalize hN:hs.length=N at *
             have HN:=Lib.hid hN
             clear hN
             go_wp2_with fail
             go_loopw [38] (fun i wr=>∃ (k:Nat) (o:List (List UInt8)) (oa:Option Addr) (oc:Nat),k<=N/\i=.int .i64 k/\Hid (PQ w w.heap.size #[.string ⟨x.1.toArray⟩,.slice oa o.length oc,.slice none 0 0] wr)/\Hid (wr.ownsRow (w.heap.size+3) 9 1 (.slice oa o.length oc) o.length (o.map fun s=>.string ⟨s.toArray⟩))/\Hid (wr.ownsRow (w.heap.size+3) 135 2 (.slice ha N hc) N (hs.flatMap nameV))/\Hid (AtsOwn (w.heap.size+3) wr (.slice la l.length lc) l)/\Hid (o=(hs.take k).map (·.1))/\o.length<=k) (fun i _=>N - (intOf i).toNat)
             case atStart=>exact⟨0,[],none,0,Nat.zero_le _,rfl,HP8,Lib.hid (World.ownsRow_nil _ _ _ _),HW8,HA8,Lib.hid rfl,Nat.le_refl _⟩
             case round =>
              obtain⟨k,o,oa,oc,hk,rfl,HPr,OW,HWr,HAr,HE,hol⟩:=hrel
              by_cases hlt:k<N
              ·obtain⟨h,hh⟩:∃ h,hs[k]? = some h:=⟨hs[k]'(by rw[HN.out];exact hlt),List.getElem?_eq_getElem (by rw[HN.out];exact hlt)⟩
               have hrow:=namesRow (hs:=hs) (by rw[HN.out];exact HWr.out) (by rw[HN.out];omega)
               obtain⟨b,off,cap',hv,_,_,hbl,hce⟩:=hrow.get (i:=k) (x:=nameV h) (by simp [hh])
               simp only[List.length_map,HN.out,Value.slice.injEq,true_and] at hv
               obtain⟨rfl,rfl⟩:=hv
               have q0:=hce 0 _ rfl
               have q1:=hce 1 _ rfl
               simp only[Nat.add_zero] at q0
               have p1:=HPr.out.q.cell 1
               simp only[List.getElem?_toArray,List.getElem?_cons_zero,List.getElem?_cons_succ] at p1
               have hnl:=HPr.out.q.lt
               have hns:=HPr.out.s
               have HE2:=Lib.hid (show (hs.take (k+1)).map (·.1)=o++[h.1] by rw[List.take_add_one,hh,HE.out];simp)
               clear hce hrow hh
               go_wp2_with (at_builtin;refine wpList_append_lies _ rfl (.tmp 43) (.tmp 46) 26 rfl (w.heap.size+3) 9 i0 (.string ⟨#[]⟩) 1 16 Tryz.underlying26 hi0 hz0 hz1 hz2 rfl (by decide) (.slice oa o.length oc) o.length _ rfl ((OW.out.alloc _).alloc _) ⟨_,0,none⟩ 1 1 [.string ⟨h.1.toArray⟩] rfl rfl (World.news_of_block (blkNew1 _ _ _ _)) (by simp [Value.oneCell']) (by decide) ?c3 ?c5 ?c4 _ rfl ?_)
               case c3=>unfold maxLen;omega
               case c5=>omega
               case c4=>simp;omega
               intro g cap1 w9 hown2 hgrow2 hat2 hlt2
               have hb9:Below (w.heap.size+3) wr w9:=(((Below.refl _ wr).alloc hns _).alloc (by simp;omega) _).grown hgrow2 (by simp;omega) (fun q hq=>(OW.out.lt q hq).1)
               have m9:MT 0 [9,29] wr w9:=(((MT.refl wr).alloc _).alloc _).grown hgrow2 ((OW.out.alloc _).alloc _) (by simp) (Nat.zero_le _)
               have hp9:=HPr.out.below hb9
               have p9:=hp9.q.cell 1
               simp only[List.getElem?_toArray,List.getElem?_cons_zero,List.getElem?_cons_succ] at p9
               have y9:=hp9.q.frozen 1
               have hnl9:=hp9.q.lt
               have ms:MT 0 [29] w9 (w9.setCell ⟨w.heap.size,1,none⟩ (.slice (some ⟨g,0,none⟩) (o.length+1) cap1)):=MT.setCell (MT.refl w9) hp9.q (by simp) (Nat.zero_le _) _
               have hps:=hp9.store 1 (.slice (some ⟨g,0,none⟩) (o.length+1) cap1)
               simp only[Array.setIfInBounds] at hps
               have mall:=m9.trans (ms.wide (by simp))
               have HPS9:=Lib.hid hps
               have HO9:=Lib.hid (ms.ownsRow hown2 (by decide))
               have HW9:=Lib.hid (mall.ownsRow HWr.out (by decide))
               have HA9:=Lib.hid (HAr.out.mt mall (by decide) (by decide))
               clear hown2 hgrow2 hat2 hlt2 hb9 m9 hp9 ms hps mall
               go_wp2_with fail
               go_roundw
               case rel=>exact⟨k+1,o++[h.1],some ⟨g,0,none⟩,cap1,by omega,by go_num,Lib.hid (by simpa using HPS9.out),Lib.hid (by simpa using HO9.out),HW9,HA9,Lib.hid HE2.out.symm,by simp;omega⟩
               case measure=>simp [intOf];omega
              ·obtain rfl:k=N:=by omega
               have he:=HE.out
               rw[List.take_of_length_le (by rw[HN.out];exact Nat.le_refl _)] at he
               have HE3:=Lib.hid he
               clear he HE
               generalize hM:l.length=M at *
               have HM:=Lib.hid hM
               clear hM
               obtain⟨w10,rfl⟩:∃ w10:World,w10=wr:=⟨_,rfl⟩
               go_wp2_with fail
               go_loopw [52] (fun i wr=>∃ (i2:Nat) (aa:Option Addr) (ac:Nat) (rows:List (List Value)),i2<=M/\i=.int .i64 i2/\Hid (PQ w w.heap.size #[.string ⟨x.1.toArray⟩,.slice oa o.length oc,.slice aa i2 ac] wr)/\Hid (wr.ownsRow (w.heap.size+3) 9 1 (.slice oa o.length oc) o.length (o.map fun s=>.string ⟨s.toArray⟩))/\Hid (wr.ownsRow (w.heap.size+3) 135 2 (.slice ha k hc) k (hs.flatMap nameV))/\Hid (AtsOwn (w.heap.size+3) wr (.slice la M lc) l)/\Hid (wr.ownsRow (w.heap.size+3) 67 2 (.slice aa i2 ac) i2 rows.flatten)/\Hid (All2 (AtmO (w.heap.size+3) wr) rows ((l.take i2).map convA))) (fun i _=>M - (intOf i).toNat)
               case atStart=>exact⟨0,none,0,[],Nat.zero_le _,rfl,HPr,OW,HWr,HAr,Lib.hid (World.ownsRow_nil _ _ _ _),Lib.hid trivial⟩
               case round =>
                obtain⟨i2,aa,ac,rows,hk,rfl,HPr,OW,HWr,HAr,RW,RA⟩:=hrel
                obtain⟨wo,rfl⟩:∃ wo:World,wo=wr:=⟨_,rfl⟩
                by_cases hlt:i2<M
                ·obtain⟨y,hy⟩:∃ y,l[i2]? = some y:=⟨l[i2]'(by rw[HM.out];exact hlt),List.getElem?_eq_getElem (by rw[HM.out];exact hlt)⟩
                 have hat:=HAr.out.row (by rw[HM.out];omega) (fun z hz=>by have:=htl z hz;omega)
                 obtain⟨b,off,cap',ta,tc,hv,_,_,hbl,q0,q1,q2,htr⟩:=hat.get hy
                 rw[HM.out] at hv
                 simp only[Value.slice.injEq,true_and] at hv
                 obtain⟨rfl,rfl⟩:=hv
                 have hym:=htl y (List.mem_of_getElem? hy)
                 have HTR:=Lib.hid htr
                 have HRA2:=Lib.hid (show (l.take (i2+1)).map convA=(l.take i2).map convA++[convA y] by rw[List.take_add_one,hy];simp)
                 have hns:=HPr.out.s
                 generalize hm:y.2.length=m at *
                 have HMM:=Lib.hid hm
                 have hxb:Blk ((wo.alloc (.cells #[.string ⟨y.1.1.toArray⟩,.int .i64 y.1.2,.slice ta m tc] 145)).alloc (.cells #[.string ⟨y.1.1.toArray⟩,.slice none 0 0] 67)) (wo.heap.size+1) 67 #[.string ⟨y.1.1.toArray⟩,.slice none 0 0]:=blkNew1 _ _ _ _
                 have HXB:=Lib.hid hxb
                 clear hat htr hy hm hxb
                 go_wp2_with fail
                 go_loopw [63] (fun i wr=>∃ (j:Nat) (ja:Option Addr) (jc:Nat),j<=m/\i=.int .i64 j/\Hid (Below wo.heap.size wo wr)/\Hid (Blk wr (wo.heap.size+1) 67 #[.string ⟨y.1.1.toArray⟩,.slice ja j jc])/\Hid (wr.ownsRow wo.heap.size 71 4 (.slice ja j jc) j ((y.2.take j).flatMap fun t=>t.1.cells))) (fun i _=>m - (intOf i).toNat)
                 case atStart=>exact⟨0,none,0,Nat.zero_le _,rfl,Lib.hid (balloc (balloc (Below.refl _ _) _) _),HXB,Lib.hid (World.ownsRow_nil _ _ _ _)⟩
                 case round =>
                  obtain⟨j,ja,jc,hj,rfl,JB,JX,JO⟩:=hrel
                  by_cases hjl:j<m
                  ·obtain⟨t,ht⟩:∃ t,y.2[j]? = some t:=⟨y.2[j]'(by rw[HMM.out];exact hjl),List.getElem?_eq_getElem (by rw[HMM.out];exact hjl)⟩
                   obtain⟨tb,to,tcap,htv,_,_,htbl,htc⟩:=(HTR.out.keep JB.out).get (i:=j) (x:=termV t) (by simp [ht])
                   simp only[List.length_map,HMM.out,Value.slice.injEq,true_and] at htv
                   obtain⟨rfl,rfl⟩:=htv
                   have t0:=htc 0 _ rfl
                   have t1:=htc 1 _ rfl
                   have t2:=htc 2 _ rfl
                   have t3:=htc 3 _ rfl
                   have t4:=htc 4 _ rfl
                   simp only[Nat.add_zero] at t0
                   have x1:=JX.out.cell 1
                   simp only[List.getElem?_toArray,List.getElem?_cons_zero,List.getElem?_cons_succ] at x1
                   have hxl:=JX.out.lt
                   have hjz:=JB.out.size
                   have HJT:=Lib.hid (show (y.2.take (j+1)).flatMap (fun t=>t.1.cells)=(y.2.take j).flatMap (fun t=>t.1.cells)++t.1.cells by rw[List.take_add_one,ht];simp)
                   clear htc ht
                   go_wp2_with (at_builtin;refine wpList_append_lies _ rfl (.tmp 68) (.tmp 71) 65 rfl wo.heap.size 71 it (.agg #[.string ⟨#[]⟩,.int .i64 0,.int .i64 0,.string ⟨#[]⟩]) 4 48 Tryz.underlying65 hit ht0 ht1 ht2 rfl (by decide) (.slice ja j jc) j _ rfl ((JO.out.alloc _).alloc _) ⟨_,0,none⟩ 1 1 [.string ⟨t.1.x.toArray⟩,.int .i64 t.1.k,.int .i64 t.1.n,.string ⟨t.1.t.toArray⟩] rfl rfl (World.news_of_block (blkNew1 _ _ _ _)) (by simp [Value.oneCell']) (by decide) ?c3 ?c5 ?c4 _ rfl ?_)
                   case c3=>unfold maxLen;omega
                   case c5=>omega
                   case c4=>simp;omega
                   intro g cap1 w11 hown2 hgrow2 hat2 hlt2
                   have hb11:Below wo.heap.size wo w11:=(balloc (balloc JB.out _) _).grown hgrow2 (by simp;omega) (fun q hq=>(JO.out.lt q hq).1)
                   have hne:=own_blk_ne JO.out JX.out (by decide)
                   have hx11:=((JX.out.alloc (.cells #[.string ⟨t.1.x.toArray⟩,.int .i64 t.1.k,.int .i64 t.1.n,.string ⟨t.1.t.toArray⟩,.int .i64 t.2] 148)).alloc (.cells #[.string ⟨t.1.x.toArray⟩,.int .i64 t.1.k,.int .i64 t.1.n,.string ⟨t.1.t.toArray⟩] 71)).grown hgrow2 (fun e=>hne e.symm)
                   have x11:=hx11.cell 1
                   simp only[List.getElem?_toArray,List.getElem?_cons_zero,List.getElem?_cons_succ] at x11
                   have y11:=hx11.frozen 1
                   have hxl11:=hx11.lt
                   have hxs:=hx11.set_ 1 (.slice (some ⟨g,0,none⟩) (j+1) cap1)
                   simp only[Array.setIfInBounds] at hxs
                   have ms:MT 0 [67] w11 (w11.setCell ⟨wo.heap.size+1,1,none⟩ (.slice (some ⟨g,0,none⟩) (j+1) cap1)):=MT.setCell (MT.refl w11) hx11 (by simp) (Nat.zero_le _) _
                   have HXS:=Lib.hid hxs
                   have HB11:=Lib.hid (hb11.setCell (p:=⟨wo.heap.size+1,1,none⟩) (by simp) (.slice (some ⟨g,0,none⟩) (j+1) cap1))
                   have HO11:=Lib.hid (ms.ownsRow hown2 (by decide))
                   clear hown2 hgrow2 hat2 hlt2 hb11 hne hx11 hxs ms
                   go_wp2_with fail
                   go_roundw
                   case rel=>exact⟨j+1,some ⟨g,0,none⟩,cap1,by omega,by go_num,HB11,Lib.hid (by simpa using HXS.out),Lib.hid (by rw[HJT.out];exact HO11.out)⟩
                   case measure=>simp [intOf];omega
                  ·obtain rfl:j=m:=by omega
                   have jt:=JO.out
                   rw[List.take_of_length_le (by rw[HMM.out];exact Nat.le_refl _)] at jt
                   have JT:=Lib.hid jt
                   have x0:=JX.out.cell 0
                   have x1:=JX.out.cell 1
                   simp only[List.getElem?_toArray,List.getElem?_cons_zero,List.getElem?_cons_succ] at x0 x1
                   have hxl:=JX.out.lt
                   have hp12:=HPr.out.keep JB.out
                   have p2:=hp12.q.cell 2
                   simp only[List.getElem?_toArray,List.getElem?_cons_zero,List.getElem?_cons_succ] at p2
                   have hnl:=hp12.q.lt
                   have hns2:=hp12.s
                   have RW2:=Lib.hid ((MT.ofBelow (B:=0) (Ts:=[]) JB.out).ownsRow RW.out (by simp))
                   have HP12:=Lib.hid hp12
                   clear jt JO hp12
                   go_wp2_with (at_builtin;refine wpList_append_lies _ rfl (.tmp 76) (.tmp 78) 27 rfl (w.heap.size+3) 67 ia0 (.agg #[.string ⟨#[]⟩,.slice none 0 0]) 2 40 Tryz.underlying27 hia ha0 ha1 ha2 rfl (by decide) (.slice aa i2 ac) i2 _ rfl (RW2.out.alloc _) ⟨_,0,none⟩ 1 1 [.string ⟨y.1.1.toArray⟩,.slice ja j jc] rfl rfl (World.news_of_block (Blk.new _ _ _)) (by simp [Value.oneCell']) (by decide) ?c3 ?c5 ?c4 _ rfl ?_)
                   case c3=>unfold maxLen;omega
                   case c5=>omega
                   case c4=>simp;omega
                   intro g cap1 w13 hown2 hgrow2 hat2 hlt2
                   have hb13:Below (w.heap.size+3) wr w13:=((Below.refl _ wr).alloc hns2 _).grown hgrow2 (by simp;omega) (fun q hq=>(RW2.out.lt q hq).1)
                   have m13:MT 0 [67,29] wr w13:=((MT.refl wr).alloc _).grown hgrow2 (RW2.out.alloc _) (by simp) (Nat.zero_le _)
                   have hp13:=HP12.out.below hb13
                   have p13:=hp13.q.cell 2
                   simp only[List.getElem?_toArray,List.getElem?_cons_zero,List.getElem?_cons_succ] at p13
                   have y13:=hp13.q.frozen 2
                   have hnl13:=hp13.q.lt
                   have ms:MT 0 [29] w13 (w13.setCell ⟨w.heap.size,2,none⟩ (.slice (some ⟨g,0,none⟩) (i2+1) cap1)):=MT.setCell (MT.refl w13) hp13.q (by simp) (Nat.zero_le _) _
                   have hps:=hp13.store 2 (.slice (some ⟨g,0,none⟩) (i2+1) cap1)
                   simp only[Array.setIfInBounds] at hps
                   have mi:=m13.trans (ms.wide (by simp))
                   have mall:MT 0 [67,29] wo _:=(MT.ofBelow JB.out).trans mi
                   have HPS:=Lib.hid hps
                   have HO13:=Lib.hid (ms.ownsRow hown2 (by decide))
                   have OW13:=Lib.hid (mall.ownsRow OW.out (by decide))
                   have HW13:=Lib.hid (mall.ownsRow HWr.out (by decide))
                   have HA13:=Lib.hid (HAr.out.mt mall (by decide) (by decide))
                   have hnew:AtmO (w.heap.size+3) (w13.setCell ⟨w.heap.size,2,none⟩ (.slice (some ⟨g,0,none⟩) (i2+1) cap1)) [.string ⟨y.1.1.toArray⟩,.slice ja j jc] (convA y):=by
                    refine⟨_,rfl,?_⟩
                    have:=mi.ownsRow (World.ownsRow.low JT.out hns) (by decide)
                    simp only[convA,List.length_map,List.flatMap_map]
                    rw[HMM.out]
                    exact this
                   have RA13:=Lib.hid (All2.snoc hnew (RA.out.mono fun b a h=>h.mt mall (by decide)))
                   clear hown2 hgrow2 hat2 hlt2 hb13 m13 hp13 ms hps mi mall hnew
                   go_wp2_with fail
                   go_roundw
                   case rel=>exact⟨i2+1,some ⟨g,0,none⟩,cap1,rows++[[.string ⟨y.1.1.toArray⟩,.slice ja j jc]],by omega,by go_num,Lib.hid (by simpa using HPS.out),OW13,HW13,HA13,Lib.hid (by have:=HO13.out;simpa [List.flatten_append] using this),Lib.hid (by rw[HRA2.out];exact RA13.out)⟩
                   case measure=>simp [intOf];omega
                ·obtain rfl:i2=M:=by omega
                 have ra:=RA.out
                 rw[List.take_of_length_le (by rw[HM.out];exact Nat.le_refl _)] at ra
                 obtain⟨hl6,ht5⟩:=lim_small HL5.out
                 have hts:=tsum_small ht5
                 have hst:StrsAt wo (.slice oa o.length oc) o:=OwnS.strs (show OwnS (w.heap.size+3) wo _ o from OW.out) (by omega)
                 have hAt:AtomsAt wo (.slice aa i2 ac) (l.map convA):=atomsRow RW.out (by rw[List.length_map,HM.out]) ra (by rw[List.length_map];omega) (by
                  intro a ha
                  obtain⟨z,hz,rfl⟩:=List.mem_map.1 ha
                  have:=ht5 z hz
                  simp only[convA,List.length_map]
                  omega)
                 have hdb:=doubled_any wo _ o hst
                 have hun:=unsafeVar_any wo ⟨x.1.toArray⟩ _ _ o (l.map convA) hst hAt (by rw[List.length_map];omega) (by omega)
                 have hol2:o.length=k:=by rw[HE3.out,List.length_map,HN.out]
                 have hq:=HQ6.out
                 rw[<-HE3.out,qryOf_atoms] at hq
                 have p0:=HPr.out.q.cell 0
                 have p1:=HPr.out.q.cell 1
                 have p2:=HPr.out.q.cell 2
                 simp only[List.getElem?_toArray,List.getElem?_cons_zero,List.getElem?_cons_succ] at p0 p1 p2
                 have hnl:=HPr.out.q.lt
                 have hrow:=namesRow (hs:=hs) (by rw[HN.out];exact HWr.out) (by rw[HN.out];omega)
                 have HROW:=Lib.hid hrow
                 have HUN:=Lib.hid hun
                 have HDB:=Lib.hid hdb
                 have RA3:=Lib.hid ra
                 have HOL2:=Lib.hid hol2
                 clear hun hdb ra hst hAt hts ht5 hl6 RA HAr hrow hol2
                 split at hq
                 ·rename_i h he1 he2
                  have hd0:=of_decide_eq_true he2
                  obtain⟨j,hj,_,hjl⟩:=dup_range o [] 0 hd0
                  have hj2:dupI o=(j:Int):=hj
                  rw[hj2,Int.toNat_natCast] at he1
                  rw[hj2] at HDB
                  have hjk:j<k:=by have:=HOL2.out;omega
                  obtain⟨b,off,cap',hv,_,_,hbl,hce⟩:=HROW.out.get (i:=j) (x:=nameV h) (by simp [he1])
                  simp only[List.length_map,HN.out,Value.slice.injEq,true_and] at hv
                  obtain⟨rfl,rfl⟩:=hv
                  have q0:=hce 0 _ rfl
                  have q1:=hce 1 _ rfl
                  simp only[Nat.add_zero] at q0
                  subst hq
                  clear he1 he2 hd0 hj hjl hj2 hce
                  go_wp2_with fail
                  refine HDB.out.mono ?_
                  rintro e wx ⟨rfl,rfl⟩
                  go_wp2_with fail
                  exact parse_door HPr.out rfl rfl rfl
                 ·rename_i hno
                  have hdn:decide (0<=dupI o)=false:=by
                   rw[decide_eq_false_iff_not]
                   intro hd0
                   obtain⟨j,hj,_,hjl⟩:=dup_range o [] 0 hd0
                   have hj2:dupI o=(j:Int):=hj
                   have hjk:j<hs.length:=by have:=HOL2.out;have:=HN.out;omega
                   exact hno hs[j] (by rw[hj2,Int.toNat_natCast];exact List.getElem?_eq_getElem hjk) (decide_eq_true hd0)
                  clear hno
                  generalize dupI o=d0 at *
                  split at hq
                  ·rename_i h he1 he2
                   have hd0:=of_decide_eq_true he2
                   obtain⟨j,hj2,hjl⟩:=idxP_range hd0
                   have hj3:lackI (qVars (l.map convA)) o=(j:Int):=hj2
                   rw[hj3,Int.toNat_natCast] at he1
                   rw[hj3] at HUN
                   have hjk:j<k:=by have:=HOL2.out;simp at hjl;omega
                   subst hq
                   have HE1:=Lib.hid he1
                   clear he1 he2 hd0 hj2 hjl hj3
                   go_wp2_with fail
                   refine HDB.out.mono ?_
                   rintro e wx ⟨rfl,rfl⟩
                   go_wp2_with fail
                   refine HUN.out.mono ?_
                   rintro e w14 ⟨rfl,hb14⟩
                   obtain⟨b,off,cap',hv,_,_,hbl,hce⟩:=(HROW.out.keep hb14).get (i:=j) (x:=nameV h) (by simp [HE1.out])
                   simp only[List.length_map,HN.out,Value.slice.injEq,true_and] at hv
                   obtain⟨rfl,rfl⟩:=hv
                   have q0:=hce 0 _ rfl
                   have q1:=hce 1 _ rfl
                   simp only[Nat.add_zero] at q0
                   have HP14:=Lib.hid (HPr.out.keep hb14)
                   clear hce hb14
                   go_wp2_with fail
                   exact parse_door HP14.out rfl rfl rfl
                  ·rename_i hno
                   have hdn2:decide (0<=lackI (qVars (l.map convA)) o)=false:=by
                    rw[decide_eq_false_iff_not]
                    intro hd0
                    obtain⟨j,hj2,hjl⟩:=idxP_range hd0
                    have hj3:lackI (qVars (l.map convA)) o=(j:Int):=hj2
                    have hjk:j<hs.length:=by have:=HOL2.out;have:=HN.out;simp at hjl;omega
                    exact hno hs[j] (by rw[hj3,Int.toNat_natCast];exact List.getElem?_eq_getElem hjk) (decide_eq_true hd0)
                   clear hno
                   generalize lackI (qVars (l.map convA)) o=d1 at *
                   subst hq
                   go_wp2_with fail
                   refine HDB.out.mono ?_
                   rintro e wx ⟨rfl,rfl⟩
                   go_wp2_with fail
                   refine HUN.out.mono ?_
                   rintro e w14 ⟨rfl,hb14⟩
                   have hp14:=HPr.out.keep hb14
                   have z0:=hp14.q.cell 0
                   have z1:=hp14.q.cell 1
                   have z2:=hp14.q.cell 2
                   have z3:=hp14.a.cell 0
                   have z4:=hp14.e.cell 0
                   simp only[List.getElem?_toArray,List.getElem?_cons_zero,List.getElem?_cons_succ] at z0 z1 z2 z3 z4
                   have u0:=hp14.q.frozen 0
                   have u1:=hp14.q.frozen 1
                   have u2:=hp14.q.frozen 2
                   have u3:=hp14.a.frozen 0
                   have u4:=hp14.e.frozen 0
                   have hnl14:=hp14.q.lt
                   have hna14:=hp14.a.lt
                   have hne14:=hp14.e.lt
                   obtain⟨hfin,mfin⟩:=hp14.fin
                   have mall:=(MT.ofBelow (B:=0) (Ts:=[29,3,35]) hb14).trans mfin
                   have hpost:QPost w (.ok (qryOf x hs l) []) (.returned (.tuple #[.agg #[.string ⟨x.1.toArray⟩,.slice oa o.length oc,.slice aa i2 ac],.int .i64 0,.int .i64 0])) _ :=
                    ⟨_,_,rfl,by
                     show OwnS _ _ _ (hs.map (·.1))
                     rw[<-HE3.out]
                     exact World.ownsRow.low (mall.ownsRow OW.out (by decide)) (by omega),⟨rows,by
                     show World.ownsRow _ _ _ _ _ (l.map convA).length _
                     rw[List.length_map,HM.out]
                     exact World.ownsRow.low (mall.ownsRow RW.out (by decide)) (by omega),RA3.out.mono fun b a hh=>by
                     obtain⟨tv,rfl,h2⟩:=hh
                     exact⟨tv,rfl,World.ownsRow.low (mall.ownsRow h2 (by decide)) (by omega)⟩⟩,hfin.b⟩
                   have HFIN:=Lib.hid hfin
                   have HPOST:=Lib.hid hpost
                   clear hb14 hp14 hfin mfin mall hpost
                   go_wp2_with fail
                   exact parse_exit HFIN.out rfl rfl rfl rfl rfl rfl HPOST.out
theorem parse_line (s:ByteArray) (w:World) (hs:s.size<=281474976710656) (hg:Glob w) (he:(lexR s.data.toList).e=0) :
 Calls Tryz.prog 25 #[.string s] w (QPost w (queryT (lexR s.data.toList).ts)) :=
 parse_good s w _ fun W hb=>open_good s W hs (hg.below hb) he
theorem parse_fault (s:ByteArray) (w:World) (hs:s.size<=281474976710656) (hg:Glob w) (he:(lexR s.data.toList).e≠0) :
 Calls Tryz.prog 25 #[.string s] w (QPost w (.bad (lexR s.data.toList).at_ (lexR s.data.toList).e)) :=
 parse_bad s w _ _ fun W hb=>open_bad s W hs (hg.below hb) he
end Go.Proofs.YtamjadghncnbcaaGreatDoor
