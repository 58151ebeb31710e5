/- osierref08.Parse, walked. SchemaParses, walked. -/
import Derived.Test.YtamjadghncnbcaaGreatDoorKfW
import Derived.Test.YtamjadghncnbcaaGreatDoorDoW
namespace Go.Proofs.YtamjadghncnbcaaGreatDoor
open Go.RowKit
set_option linter.unusedVariables false
set_option maxHeartbeats 16000000 in
set_option maxRecDepth 100000 in
theorem refSch_any (s0:ByteArray) (w:World) (S0:LS) (hg:Good S0)
 (hop:Calls Tryz.prog 51 #[.string s0] (w.alloc (.cells #[.string ⟨#[]⟩,.slice none 0 0] 25)) fun e w'=>∃ b vt,e=.returned (.pointer (some ⟨b,0,none⟩))/\w.heap.size+1<=b/\Ln w' b S0 vt/\Below (w.heap.size+1) (w.alloc (.cells #[.string ⟨#[]⟩,.slice none 0 0] 25)) w') :
 Calls Tryz.prog 56 #[.string s0] w (SPost w (refS S0)):=by
 obtain⟨ic,hic,hk0,hk1,hk2⟩:=info_parts Tryz.infoCl
 obtain⟨ii,hii,hn0,hn1,hn2⟩:=info_parts Tryz.infoInt
 have hf1:∀ (a b c d e f:Value) (w:World),(Instr.field 105 (.agg #[a,b,c,d,e,f]) 1).run Tryz.prog w=.ok b w:=fun _ _ _ _ _ _ _=>by kernel_rfl
 obtain⟨Q,hQ⟩:∃ Q,Q=refS S0:=⟨_,rfl⟩
 rw[<-hQ]
 unfold refS at hQ
 have HO:=Lib.hid hop
 clear hop
 go_enter Tryz.func56,Tryz.ntmps56
 go_wp2_with fail
 refine HO.out.mono ?_
 rintro e w1 ⟨b,vt,rfl,hb0,hl,hb⟩
 have r1:=(Blk.new w 25 #[.string ⟨#[]⟩,.slice none 0 0]).below hb (by simp)
 have hbw:Below w.heap.size w w1:=(balloc (Below.refl _ _) _).trans (hb.mono (by simp))
 have hw1:=want_ln hl hg 1 []
 have hg1:Good (wantS 1 [] S0).2:=want_good (by decide) hg
 generalize wantS 1 [] S0=X at hw1 hg1 hQ
 obtain⟨t0,s1⟩:=X
 simp only at hw1 hg1
 have HW1:=Lib.hid hw1
 have HR1:=Lib.hid r1
 have HB1:=Lib.hid hbw
 have HG1:=Lib.hid hg1
 have HQ1:=Lib.hid hQ
 clear hw1 r1 hbw hg1 hQ hl hb hg HO
 unfold Tok.v at HW1
 go_wp2_with fail
 refine HW1.out.mono ?_
 rintro e w2 ⟨rfl,hl2,hm2⟩
 have hbw2:w.heap.size<=w2.heap.size:=by have:=HB1.out.size;have:=hm2.size;omega
 have hm2':MT w.heap.size [101] w1 w2:=hm2.mono (fun _ h=>h) (by omega)
 have hr2:=HR1.out.mt hm2' (by decide)
 have hrl2:=hr2.lt
 have hpc:RC w (w2.alloc (.cells #[.string ⟨t0.x.toArray⟩,.slice none 0 0] 25)) w2.heap.size t0.x (.slice none 0 0) (.slice none 0 0) [] [] :=
  ⟨Blk.new _ _ _,hr2.alloc _,World.ownsRow_nil _ _ _ _,World.ownsRow_nil _ _ _ _,balloc (HB1.out.trans (hm2'.below HB1.out.size)) _,hrl2⟩
 have hl3:=hl2.keep (balloc (Below.refl _ w2) (.cells #[.string ⟨t0.x.toArray⟩,.slice none 0 0] 25))
 have hw2:=want_ln hl3 HG1.out 3 [40]
 have hg2:Good (wantS 3 [40] s1).2:=want_good (by decide) HG1.out
 have hq:=HQ1.out
 unfold rq at hq
 simp only at hq
 generalize wantS 3 [40] s1=X at hw2 hg2 hq
 obtain⟨t1,s2⟩:=X
 simp only at hw2 hg2
 have HW2:=Lib.hid hw2
 have HPC:=Lib.hid hpc
 have HG2:=Lib.hid hg2
 have HQ2:=Lib.hid hq
 clear hw2 hpc hg2 hq hl2 hl3 hm2 hm2' hr2 HW1 HR1 HQ1 HG1
 unfold Tok.v at HW2
 go_wp2_with fail
 refine HW2.out.mono ?_
 rintro e w3 ⟨rfl,hl3,hm3⟩
 have hm3':=hm3.mono (Ts':=[101]) (B':=w.heap.size) (fun _ h=>h) (by omega)
 have hpc3:=HPC.out.mt hm3' (by decide) (by decide) (by decide)
 have hq:=HQ2.out
 unfold r0 at hq
 simp only at hq
 have hme:=ln_meas hl3
 obtain⟨G1,hG1⟩:∃ G1,gloop clS (meas s2+1) s2 []=G1:=⟨_,rfl⟩
 rw[hG1] at hq
 have HG1:=Lib.hid hG1
 have HQ3:=Lib.hid hq
 have HL3:=Lib.hid hl3
 have HPC3:=Lib.hid hpc3
 clear hm3 hm3' hpc3 hq hG1 hl3 HW2 HQ2 HPC
 go_wp2_with fail
 go_loopw [7] (fun vh wr=>∃ (s:LS) (ys:List ClP) (f:Nat) (ha qa:Option Addr) (hc qc:Nat),vh=.slice ha ys.length hc/\ys.length+f<=300000/\meas s<=f/\(ys=[]->meas s<f)/\Hid (Good s)/\Hid (gloop clS f s ys=G1)/\Hid (Ln wr b s vt)/\Hid (RC w wr w2.heap.size t0.x (.slice qa ys.length qc) (.slice ha ys.length hc) (ys.map clC) (ys.map (·.2.2)))) (fun v _=>300000 - (match v with | .slice _ n _=>n | _=>0))
 case atStart=>exact⟨s2,[],meas s2+1,none,none,0,0,rfl,by simp;omega,by omega,fun _=>by omega,HG2,HG1,HL3,HPC3⟩
 case round =>
  obtain⟨s,ys,f,ha,qa,hc,qc,rfl,hbd,hf,hf0,HGs,HL,LN,PCr⟩:=hrel
  have hmo:=more_ln LN.out HGs.out ys.length (by omega)
  have hgm:Good (moreS ys.length s).2:=more_good HGs.out
  have x1:=PCr.out.q.cell 1
  simp only[List.getElem?_toArray,List.getElem?_cons_zero,List.getElem?_cons_succ] at x1
  have hql:=PCr.out.q.lt
  have hwr:=PCr.out.below.size
  cases hc1:(moreS ys.length s).1 with
  | false =>
    rw[hc1,more_false hc1] at hmo
    have hgl:=HL.out
    rw[gloop_end clS f hc1] at hgl
    have HM:=Lib.hid hmo
    have HGE:=Lib.hid hgl
    clear hmo hgm hc1 hgl
    go_wp2_with fail
    refine HM.out.mono ?_
    rintro e w4 ⟨rfl,hl4,hm4⟩
    have hm4':=hm4.mono (Ts':=[101]) (B':=w.heap.size) (fun _ h=>h) (by omega)
    have HPC4:=Lib.hid (PCr.out.mt hm4' (by decide) (by decide) (by decide))
    have HL4:=Lib.hid hl4
    clear hm4 hm4' hl4
    have hq:=HQ3.out
    rw[<-HGE.out] at hq
    unfold r1 at hq
    simp only at hq
    have hw5:=want_ln HL4.out HGs.out 3 [41]
    have hg5:Good (wantS 3 [41] s).2:=want_good (by decide) HGs.out
    generalize wantS 3 [41] s=X at hw5 hg5 hq
    obtain⟨t2,s3⟩:=X
    simp only at hw5 hg5
    have HW5:=Lib.hid hw5
    have HG5:=Lib.hid hg5
    have HQ4:=Lib.hid hq
    clear hw5 hg5 hq HQ3 HGE HL HGs HG1 HM
    unfold Tok.v at HW5
    go_wp2_with fail
    refine HW5.out.mono ?_
    rintro e w5 ⟨rfl,hl5,hm5⟩
    have hm5':=hm5.mono (Ts':=[101]) (B':=w.heap.size) (fun _ h=>h) (by omega)
    have HPC5:=Lib.hid (HPC4.out.mt hm5' (by decide) (by decide) (by decide))
    have hq:=HQ4.out
    unfold r2 at hq
    simp only at hq
    have hnb:NB (wantS 0 [] s3).2:=want0_nb HG5.out
    have hw6:=want_ln hl5 HG5.out 0 []
    generalize wantS 0 [] s3=X at hw6 hnb hq
    obtain⟨t3,s4⟩:=X
    simp only[r3,sEnd] at hw6 hnb hq
    have HW6:=Lib.hid hw6
    have HNB:=Lib.hid hnb
    have HQ5:=Lib.hid hq
    clear hw6 hnb hq HQ4 HW5 HG5 hl5 hm5 hm5' HPC4 HL4
    unfold Tok.v at HW6
    go_wp2_with fail
    refine HW6.out.mono ?_
    rintro e wb ⟨rfl,hl6,hm6⟩
    have hm6':=hm6.mono (Ts':=[101]) (B':=w.heap.size) (fun _ h=>h) (by omega)
    have HPCB:=Lib.hid (HPC5.out.mt hm6' (by decide) (by decide) (by decide))
    have HLB:=Lib.hid hl6
    obtain⟨s6,hs6⟩:∃ s6,manyS ys s4=s6:=⟨_,rfl⟩
    have hq:=HQ5.out
    rw[hs6] at hq
    obtain⟨s7,hs7⟩:∃ s7,twS ys ys.length 0 s6=s7:=⟨_,rfl⟩
    rw[hs7] at hq
    have HQ8:=Lib.hid hq
    have HS6:=Lib.hid hs6
    have HS7:=Lib.hid hs7
    clear hq hs6 hs7 HQ5 hl6 hm6 hm6' HPC5 HW6
    have h6c:(∃ a,ys[5]? = some a)∨ys[5]? = none:=by
     cases ys[5]? with
     | none=>exact .inr rfl
     | some a=>exact .inl ⟨a,rfl⟩
    have x1:=HPCB.out.q.cell 1
    simp only[List.getElem?_toArray,List.getElem?_cons_zero,List.getElem?_cons_succ] at x1
    have hql:=HPCB.out.q.lt
    rcases h6c with ⟨a,h6⟩ | h6
    case' inl =>
     have h6l:=(List.getElem?_eq_some_iff.1 h6).1
     have hs6:=HS6.out
     rw[many_some h6] at hs6
     obtain⟨g6,cap6,hv6,hnc6,hcm6,hg6,c6⟩:=HPCB.out.pl.get (i:=5) (p:=a.2.2) (by simp [h6])
     simp only[List.length_map,Value.slice.injEq,true_and] at hv6 hnc6
     obtain⟨e1,rfl⟩:=hv6
     have hd:(5:Int)<(ys.length:Int):=by omega
     have hd2:¬ ((ys.length:Int)<=5):=by omega
     have HFL:=Lib.hid (fail_ln HLB.out HNB.out a.2.2 81)
     have HNC:=Lib.hid (fail_nb HNB.out a.2.2 81 (by decide))
     unfold maxLen at hcm6
     rw[hs6] at HFL HNC
     clear h6 h6l hs6
     go_wp2_with fail
     refine HFL.out.mono ?_
     rintro e wc ⟨rfl,hlc,hmc⟩
     have hmc':=hmc.mono (Ts':=[101]) (B':=w.heap.size) (fun _ h=>h) (by omega)
     have HPCC:=Lib.hid (HPCB.out.mt hmc' (by decide) (by decide) (by decide))
     have HLC:=Lib.hid hlc
     have hwc:=HPCC.out.below.size
     clear hlc hmc hmc' c6 hg6 hnc6 hcm6 hd hd2 HPCB HLB HFL HNB x1 hql
     rw[<-e1]
     clear e1
    case' inr =>
     have h6l:=List.getElem?_eq_none_iff.1 h6
     have hs6:=HS6.out
     rw[many_none h6] at hs6
     rw[hs6] at HLB HNB
     obtain⟨wc,rfl⟩:∃ wc:World,wc=wb:=⟨_,rfl⟩
     have hd:¬ ((5:Int)<(ys.length:Int)):=by omega
     have hd2:(ys.length:Int)<=5:=by omega
     have HNC:=HNB
     have HLC:=HLB
     have HPCC:=HPCB
     have hwc:=HPCC.out.below.size
     clear h6 h6l hs6 HLB HNB HPCB x1 hql
    all_goals
     generalize hN:ys.length=N at *
     have HN:=Lib.hid hN
     clear hN
     have x1:=HPCC.out.q.cell 1
     simp only[List.getElem?_toArray,List.getElem?_cons_zero,List.getElem?_cons_succ] at x1
     have hql:=HPCC.out.q.lt
     go_wp2_with fail
     clear x1 hql
     go_loopw [10] (fun i wr=>∃ (k:Nat) (s:LS),k<=N/\i=.int .i64 k/\Hid (NB s)/\Hid (twS ys (N - k) k s=s7)/\Hid (Ln wr b s vt)/\Hid (RC w wr w2.heap.size t0.x (.slice qa N qc) (.slice ha N hc) (ys.map clC) (ys.map (·.2.2)))) (fun i _=>N - (intOf i).toNat)
     case atStart=>exact⟨0,s6,Nat.zero_le _,rfl,HNC,HS7,HLC,HPCC⟩
     case round =>
      obtain⟨k,s,hk,rfl,HNB,HDU,LN,PCr⟩:=hrel
      obtain⟨we,rfl⟩:∃ we:World,we=wr:=⟨_,rfl⟩
      have x1:=PCr.out.q.cell 1
      simp only[List.getElem?_toArray,List.getElem?_cons_zero,List.getElem?_cons_succ] at x1
      have hql:=PCr.out.q.lt
      have hwr:=PCr.out.below.size
      by_cases hlt:k<N
      ·obtain⟨h,hh⟩:∃ h,ys[k]? = some h:=⟨ys[k]'(by rw[HN.out];exact hlt),List.getElem?_eq_getElem (by rw[HN.out];exact hlt)⟩
       have hdu:=HDU.out
       rw[show N - k=(N - (k+1))+1 by omega,twS_step ys _ k hh] at hdu
       have HDV:=Lib.hid hdu
       have HH:=Lib.hid hh
       clear hh hdu HDU
       go_wp2_with fail
       go_loopw [11] (fun i wr=>∃ (j:Nat) (s2:LS),j<=k/\i=.int .i64 j/\Hid (NB s2)/\Hid (s2=inS ys h j s)/\Hid (Ln wr b s2 vt)/\Hid (RC w wr w2.heap.size t0.x (.slice qa N qc) (.slice ha N hc) (ys.map clC) (ys.map (·.2.2)))) (fun i _=>k - (intOf i).toNat)
       case atStart=>exact⟨0,s,Nat.zero_le _,rfl,HNB,Lib.hid (inS_zero ys h s).symm,LN,PCr⟩
       case round =>
        obtain⟨j,s2,hj,rfl,HNB2,HIS,LN2,PC2⟩:=hrel
        obtain⟨wf,rfl⟩:∃ wf:World,wf=wr:=⟨_,rfl⟩
        have x2:=PC2.out.q.cell 1
        simp only[List.getElem?_toArray,List.getElem?_cons_zero,List.getElem?_cons_succ] at x2
        have hq2:=PC2.out.q.lt
        have hwf:=PC2.out.below.size
        by_cases hlt2:j<k
        ·obtain⟨d,hd0⟩:∃ d,ys[j]? = some d:=⟨ys[j]'(by rw[HN.out];omega),List.getElem?_eq_getElem (by rw[HN.out];omega)⟩
         have hat:ColsAt wf (.slice qa N qc) (ys.map clC):=ColsOwn.at PC2.out.cols (by rw[List.length_map,HN.out];omega)
         obtain⟨gb,go,gcap,hv,_,_,hbl,c0,c1⟩:=hat.get (i:=k) (c:=clC h) (by simp [HH.out])
         obtain⟨ub,uo,ucap,huv,_,_,hubl,d0,d1⟩:=hat.get (i:=j) (c:=clC d) (by simp [hd0])
         simp only[List.length_map,HN.out,Value.slice.injEq,true_and] at hv huv
         obtain⟨rfl,rfl⟩:=hv
         simp only[Option.some.injEq,Addr.mk.injEq,and_true] at huv
         obtain⟨⟨rfl,rfl⟩,rfl⟩:=huv
         simp only[clC] at c0 d0
         have hdm:decide ((k:Int)<0)=false:=by simp
         have hdm2:decide ((N:Int)<=(k:Int))=false:=by simp;omega
         have hdk:decide ((j:Int)<0)=false:=by simp
         have hdk2:decide ((N:Int)<=(j:Int))=false:=by simp;omega
         by_cases he:h.1=d.1
         ·have q1:(h.1 == d.1)=true:=by rw[he];exact beq_self_eq_true _
          obtain⟨gp,pcap,hvp,hncp,hcmp,hgp,cp⟩:=PC2.out.pl.get (i:=k) (p:=h.2.2) (by simp [HH.out])
          simp only[List.length_map,HN.out,Value.slice.injEq,true_and] at hvp hncp
          obtain⟨rfl,rfl⟩:=hvp
          unfold maxLen at hcmp
          have HIS3:=Lib.hid (inS_hit hd0 he s)
          have HFL:=Lib.hid (fun n=>fail_ln (LN2.out.keep (bdrewN (Below.refl _ _) n)) HNB2.out h.2.2 82)
          have HNB3:=Lib.hid (fail_nb HNB2.out h.2.2 82 (by decide))
          clear hat hd0 he c1 d1
          go_wp2_with fail
          go_quiet (fail)
          go_wp2_with fail
          refine (HFL.out _).mono ?_
          rintro e wg ⟨rfl,hlg,hmg⟩
          have hmg':=hmg.mono (Ts':=[101]) (B':=w.heap.size) (fun _ h=>h) (by omega)
          have HPCG:=Lib.hid ((PC2.out.keep (bdrewN (Below.refl _ _) _)).mt hmg' (by decide) (by decide) (by decide))
          have HLG:=Lib.hid hlg
          clear hlg hmg hmg' HFL
          go_wp2_with fail
          go_roundw
          case rel=>exact⟨j+1,_,by omega,by go_num,HNB3,Lib.hid (by rw[HIS3.out,<-HIS.out]),HLG,HPCG⟩
          case measure=>simp [intOf];omega
         ·have q1:(h.1 == d.1)=false:=by simpa using he
          have HIS3:=Lib.hid (inS_miss hd0 he s)
          clear hat hd0 he c1 d1
          go_wp2_with fail
          go_quiet (fail)
          go_wp2_with fail
          go_roundw
          case rel=>exact⟨j+1,s2,by omega,by go_num,HNB2,Lib.hid (HIS.out.trans HIS3.out.symm),Lib.hid (LN2.out.keep (bdrewN (Below.refl _ _) _)),Lib.hid (PC2.out.keep (bdrewN (Below.refl _ _) _))⟩
          case measure=>simp [intOf];omega
        ·obtain rfl:j=k:=by omega
         go_wp2_with fail
         go_roundw
         case rel=>exact⟨j+1,s2,by omega,by go_num,HNB2,Lib.hid (by rw[HIS.out];exact HDV.out),LN2,PC2⟩
         case measure=>simp [intOf];omega
      ·obtain rfl:k=N:=by omega
       have hdu:=HDU.out
       rw[Nat.sub_self] at hdu
       simp only[twS] at hdu
       subst hdu
       clear HDU
       have x0:=PCr.out.q.cell 0
       have r0:=PCr.out.r.cell 0
       have r1:=PCr.out.r.cell 1
       have y0:=PCr.out.r.frozen 0
       have y1:=PCr.out.r.frozen 1
       have hrl:=PCr.out.r.lt
       simp only[List.getElem?_toArray,List.getElem?_cons_zero,List.getElem?_cons_succ] at x0 r0 r1
       have hbne:b≠w.heap.size:=by omega
       cases s with
       | bad pa ee =>
         have hq:=HQ8.out
         simp only[outR] at hq
         obtain⟨tb,ib,hld⟩:=ln_bad LN.out
         have e2:=hld.blk.cell 2
         have e3:=hld.blk.cell 3
         simp only[List.getElem?_toArray,List.getElem?_cons_zero,List.getElem?_cons_succ] at e2 e3
         have hel:=hld.blk.lt
         have hen:(ee == 0)=false:=by simpa using HNB.out _ _ rfl
         have hen2:(ee != 0)=true:=by simpa using HNB.out _ _ rfl
         have HBEL:=Lib.hid PCr.out.below
         have hmk:=(((Mod.refl (fun k=>k=w.heap.size) we).setCell (p:=⟨w.heap.size,0,none⟩) (fun _=>rfl) (.string ⟨#[]⟩)).setCell (p:=⟨w.heap.size,1,none⟩) (fun _=>rfl) (.slice none 0 0)).drew
         have hS2:=hmk.cellOf e2 hbne
         have hS3:=hmk.cellOf e3 hbne
         have hrb0:=(PCr.out.r.set_ 0 (.string ⟨#[]⟩)).set_ 1 (.slice none 0 0)
         have hrb1:Blk ((we.setCell ⟨w.heap.size,0,none⟩ (.string ⟨#[]⟩)).setCell ⟨w.heap.size,1,none⟩ (.slice none 0 0)) w.heap.size 25 #[.string ⟨#[]⟩,.slice none 0 0]:=by simpa using hrb0
         have hrb:=hrb1.drew
         have HRB:=Lib.hid hrb
         have HB3:=Lib.hid (bdrew ((HBEL.out.setCell (p:=⟨w.heap.size,0,none⟩) (Nat.le_refl _) (.string ⟨#[]⟩)).setCell (p:=⟨w.heap.size,1,none⟩) (Nat.le_refl _) (.slice none 0 0)))
         clear hmk hrb hrb0 hrb1
         subst hq
         clear hld HNB LN PCr
         go_wp2_with fail
         go_region_held3 (fun w'=>w'.cell? ⟨b,2,none⟩=some (.int .i64 pa)/\w'.cell? ⟨b,3,none⟩=some (.int .i64 ee)) (first | go_keep | (exact⟨hS2,hS3⟩)) (fail)
         all_goals
          rename_i KK hKK hHeld
          clear hHeld
          simp only[Exit.then]
          refine hKK _ _ (wp_ret ?_)
          show bodyPost Tryz.prog Tryz.f56 (SPost w (.bad pa ee)) Exit.ret _ _
          exact refSch_ret HRB.out rfl rfl rfl ⟨rfl,HB3.out⟩
       | ok c =>
         obtain⟨tb,ib,pb,hld,_⟩:=ln_ok LN.out
         have e3:=hld.blk.cell 3
         simp only[List.getElem?_toArray,List.getElem?_cons_zero,List.getElem?_cons_succ] at e3
         have hel:=hld.blk.lt
         have hq:=HQ8.out
         simp only[outR] at hq
         subst hq
         clear hld HNB LN
         go_wp2_with (refine wpList_store_blk rfl 25 _ _ rfl w.heap.size 25 _ _ rfl rfl PCr.out.r (by kernel_rfl) rfl (by simp [Value.oneCell']) ?_)
         intro w6 hb6 hm6 hz6
         have m6:MT w.heap.size [25] we w6:=MT.ofMod hm6 PCr.out.r (by simp) (Nat.le_refl _)
         have HB6:=Lib.hid hb6
         have HPOST:Hid (SPost w (.ok (rlnOf t0.x ys) []) (.returned (.tuple #[.agg #[.string ⟨t0.x.toArray⟩,.slice qa k qc],.int .i64 0,.int .i64 0])) w6):=Lib.hid
          ⟨_,rfl,m6.ownsRow PCr.out.cols (by decide),PCr.out.below.trans (m6.below PCr.out.below.size)⟩
         clear hb6 hm6 hz6 m6
         go_wp2_with (exact refSch_ret HB6.out rfl rfl rfl HPOST.out)
  | true =>
    obtain⟨f,rfl⟩:∃ g,f=g+1:=⟨f - 1,by have:=(more_meas HGs.out hc1).1;omega⟩
    have hgl:=HL.out
    rw[gloop_go clS f hc1] at hgl
    obtain⟨hme1,hme2,hme3⟩:=more_meas HGs.out hc1
    have hme4:meas (moreS ys.length s).2<=f:=by
     by_cases h0:ys=[]
     ·have:=hf0 h0;omega
     ·have:=hme3 (fun e=>h0 (List.eq_nil_of_length_eq_zero e));omega
    rw[hc1] at hmo
    unfold clS at hgl
    have hwm:=want_meas 1 [] (moreS ys.length s).2
    generalize (moreS ys.length s).2=sa at hmo hgm hgl hme4 hwm
    have hgw:Good (wantS 1 [] sa).2:=want_good (by decide) hgm
    have HWA:=Lib.hid (fun W (h:Ln W b sa vt)=>want_ln h hgm 1 [])
    generalize wantS 1 [] sa=X at hgl hwm hgw HWA
    obtain⟨t,sb⟩:=X
    simp only at hgl hwm hgw HWA
    have HGW:=Lib.hid hgw
    have HM:=Lib.hid hmo
    have HGL:=Lib.hid hgl
    have hmb:meas sb<=f:=by omega
    clear hmo hgm hgl hgw hwm hme1 hme2 hme3 hme4 hc1 HL HGs
    unfold Tok.v at HWA
    go_wp2_with fail
    refine HM.out.mono ?_
    rintro e w4 ⟨rfl,hl4,hm4⟩
    have HWB:=Lib.hid (HWA.out w4 hl4)
    have HM4:=Lib.hid (hm4.mono (Ts':=[101]) (B':=w.heap.size) (fun _ h=>h) (by omega))
    clear hl4 hm4 HWA
    go_wp2_with fail
    refine HWB.out.mono ?_
    rintro e w5 ⟨rfl,hl5,hm5⟩
    have m5:=HM4.out.trans (hm5.mono (Ts':=[101]) (B':=w.heap.size) (fun _ h=>h) (by omega))
    have pc5:=PCr.out.mt m5 (by decide) (by decide) (by decide)
    have hq5:=pc5.q.lt
    have bk5:Below w5.heap.size w5 (w5.alloc (.cells #[.int .i64 t.k,.string ⟨t.x.toArray⟩,.int .i64 t.vk,.int .i64 t.vn,.string ⟨t.vt.toArray⟩,.int .i64 t.p] 105)):=balloc (Below.refl _ _) _
    have HPCA:=Lib.hid (pc5.keep bk5)
    have hla:=hl5.keep bk5
    have HLA:=Lib.hid hla
    have HTKA:=Lib.hid (Blk.new w5 105 #[.int .i64 t.k,.string ⟨t.x.toArray⟩,.int .i64 t.vk,.int .i64 t.vn,.string ⟨t.vt.toArray⟩,.int .i64 t.p])
    have his:=is_ln hla HGW.out 1 textX
    have hib:isS 1 textX sb=true∨isS 1 textX sb=false:=by cases isS 1 textX sb<;>simp
    clear pc5 bk5 hla hl5 hm5 m5 HM4 HWB PCr LN
    rcases hib with hi | hi
    case inl =>
     rw[hi] at his
     have hgl:=HGL.out
     rw[show kdS sb=(2,(wantS 1 textX sb).2) from if_pos hi] at hgl
     have hwm2:=want_meas 1 textX sb
     have hgw2:Good (wantS 1 textX sb).2:=want_good (by decide) HGW.out
     have HWC:=Lib.hid (fun W (h:Ln W b sb vt)=>want_ln h HGW.out 1 textX)
     generalize wantS 1 textX sb=X at hgl hwm2 hgw2 HWC
     obtain⟨t9,sc⟩:=X
     simp only at hgl hwm2 hgw2 HWC
     have HGL2:=Lib.hid hgl
     have HGC:=Lib.hid hgw2
     have HISC:=Lib.hid his
     have hmc:meas sc<=f:=by omega
     clear his hgl hwm2 hgw2 hi HGL
     unfold Tok.v at HWC
     go_wp2_with fail
     refine HISC.out.mono ?_
     rintro e w6 ⟨rfl,hb6⟩
     have HW6:=Lib.hid (HWC.out w6 (HLA.out.keep hb6))
     have HPC6:=Lib.hid (HPCA.out.keep hb6)
     have HTK6:=Lib.hid (HTKA.out.below hb6 HTKA.out.lt)
     have hw6:=HPC6.out.below.size
     clear hb6 HISC HWC
     go_wp2_with fail
     refine HW6.out.mono ?_
     rintro e w7 ⟨rfl,hl7,hm7⟩
     have m7:=hm7.mono (Ts':=[101]) (B':=w.heap.size) (fun _ h=>h) (by omega)
     have pc7:=HPC6.out.mt m7 (by decide) (by decide) (by decide)
     have tk7:=HTK6.out.mt m7 (by decide)
     have x7:=pc7.q.cell 1
     have d7:=tk7.cell 1
     simp only[List.getElem?_toArray,List.getElem?_cons_zero,List.getElem?_cons_succ] at x7 d7
     have hq7:=pc7.q.lt
     have ht7:=tk7.lt
     have hh7:w7.ownsRow w.heap.size 64 2 (.slice qa ys.length qc) ys.length ((ys.map clC).flatMap Col.cells):=by
      have:=pc7.cols
      unfold ColsOwn at this
      rw[List.length_map] at this
      exact this
     have hw7:=pc7.below.size
     have HPC7:=Lib.hid pc7
     have HTK7:=Lib.hid tk7
     have HH7:=Lib.hid hh7
     have HL7:=Lib.hid hl7
     clear pc7 tk7 hh7 hl7 m7 hm7 HPC6 HTK6 HW6
     go_wp2_with (at_builtin;refine wpList_append_lies _ rfl (.tmp 34) (.tmp 39) 23 rfl w.heap.size 64 ic (.agg #[.string ⟨#[]⟩,.int .i64 0]) 2 24 Tryz.underlying23 hic hk0 hk1 hk2 rfl (by decide) (.slice qa ys.length qc) ys.length _ rfl (HH7.out.alloc _) ⟨_,0,none⟩ 1 1 [.string ⟨t.x.toArray⟩,.int .i64 2] rfl rfl (World.news_of_block (Blk.new _ _ _)) (by simp [Value.oneCell']) (by decide) ?c3 ?c5 ?c4 _ rfl ?_)
     case c3=>unfold maxLen;omega
     case c5=>omega
     case c4=>simp;omega
     intro g cap1 w8 hown8 hgrow8 hat8 hlt8
     have bka:Below w7.heap.size w7 (w7.alloc (.cells #[.string ⟨t.x.toArray⟩,.int .i64 2] 64)):=balloc (Below.refl _ _) _
     have pca:=HPC7.out.keep bka
     have lna:=HL7.out.keep bka
     have tka:=HTK7.out.alloc (.cells #[.string ⟨t.x.toArray⟩,.int .i64 2] 64)
     obtain⟨pc9,m9⟩:=pca.setCols (cv':=.slice (some ⟨g,0,none⟩) (ys.length+1) cap1) (cs':=ys.map clC++[⟨t.x,2⟩]) hgrow8 (by
      unfold ColsOwn
      rw[List.length_append,List.length_map,List.flatMap_append]
      simpa [Col.cells] using hown8)
     have m8:MT w.heap.size [64] _ w8:=(MT.refl _).grown hgrow8 pca.cols (by simp) (Nat.le_refl _)
     have q8:=pca.q.mt m8 (by decide)
     have x8:=q8.cell 1
     have y8:=q8.frozen 1
     have hq8:=q8.lt
     have tk8:=tka.mt m8 (by decide)
     have d8:=tk8.cell 5
     have hk8:=tk8.lt
     simp only[List.getElem?_toArray,List.getElem?_cons_zero,List.getElem?_cons_succ] at x8 d8
     have hne8:w2.heap.size≠w5.heap.size:=by omega
     have ln9:=lna.mt m9 (by decide) (by decide)
     have ho9:=pc9.pl
     unfold IntsO at ho9
     simp only[List.length_map] at ho9
     have hw9:w.heap.size<=w8.heap.size:=by have:=pc9.below.size;simpa using this
     have HPC9:=Lib.hid pc9
     have HLN9:=Lib.hid ln9
     have HO9:=Lib.hid ho9
     clear bka pca lna tka pc9 m9 m8 q8 tk8 ln9 ho9 hown8 hgrow8 hat8 hlt8
     go_wp2_with (at_builtin;refine wpList_append_lies _ rfl (.tmp 42) (.tmp 45) 130 rfl w.heap.size 3 ii (.int .i64 0) 1 8 Tryz.underlying130 hii hn0 hn1 hn2 rfl (by decide) (.slice ha ys.length hc) ys.length _ rfl (HO9.out.alloc _) ⟨_,0,none⟩ 1 1 [.int .i64 t.p] rfl rfl (World.news_of_block (blkNewS _ _ _ _ _)) (by simp [Value.oneCell']) (by decide) ?d3 ?d5 ?d4 _ rfl ?_)
     case d3=>unfold maxLen;omega
     case d5=>omega
     case d4=>simp;omega
     intro g2 cap2 wa howna hgrowa hata hlta
     have bkb:Below (w8.setCell ⟨w2.heap.size,1,none⟩ (.slice (some ⟨g,0,none⟩) (ys.length+1) cap1)).heap.size (w8.setCell ⟨w2.heap.size,1,none⟩ (.slice (some ⟨g,0,none⟩) (ys.length+1) cap1)) ((w8.setCell ⟨w2.heap.size,1,none⟩ (.slice (some ⟨g,0,none⟩) (ys.length+1) cap1)).alloc (.cells #[.int .i64 t.p] 3)):=balloc (Below.refl _ _) _
     have pcb:=HPC9.out.keep bkb
     obtain⟨pcc,mc⟩:=pcb.setPl (pv':=.slice (some ⟨g2,0,none⟩) (ys.length+1) cap2) (ps':=ys.map (·.2.2)++[t.p]) hgrowa (by
      unfold IntsO
      rw[List.length_append,List.length_map]
      simpa using howna)
     have HPCC:=Lib.hid pcc
     have HLNC:=Lib.hid ((HLN9.out.keep bkb).mt mc (by decide) (by decide))
     clear bkb pcb pcc mc howna hgrowa hata hlta
     go_wp2_with fail
     go_roundw
     case rel =>
      exact⟨sc,ys++[(t.x,2,t.p)],f,some ⟨g2,0,none⟩,some ⟨g,0,none⟩,cap2,cap1,by simp,by simp;omega,hmc,by simp,HGC,HGL2,HLNC,Lib.hid (by simpa [clC] using HPCC.out)⟩
     case measure=>simp;omega
    case inr =>
     rw[hi] at his
     have hgl:=HGL.out
     rw[show kdS sb=(1,(wantS 1 intX sb).2) from if_neg (by rw[hi];decide)] at hgl
     have hwm2:=want_meas 1 intX sb
     have hgw2:Good (wantS 1 intX sb).2:=want_good (by decide) HGW.out
     have HWC:=Lib.hid (fun W (h:Ln W b sb vt)=>want_ln h HGW.out 1 intX)
     generalize wantS 1 intX sb=X at hgl hwm2 hgw2 HWC
     obtain⟨t9,sc⟩:=X
     simp only at hgl hwm2 hgw2 HWC
     have HGL2:=Lib.hid hgl
     have HGC:=Lib.hid hgw2
     have HISC:=Lib.hid his
     have hmc:meas sc<=f:=by omega
     clear his hgl hwm2 hgw2 hi HGL
     unfold Tok.v at HWC
     go_wp2_with fail
     refine HISC.out.mono ?_
     rintro e w6 ⟨rfl,hb6⟩
     have HW6:=Lib.hid (HWC.out w6 (HLA.out.keep hb6))
     have HPC6:=Lib.hid (HPCA.out.keep hb6)
     have HTK6:=Lib.hid (HTKA.out.below hb6 HTKA.out.lt)
     have hw6:=HPC6.out.below.size
     clear hb6 HISC HWC
     go_wp2_with fail
     refine HW6.out.mono ?_
     rintro e w7 ⟨rfl,hl7,hm7⟩
     have m7:=hm7.mono (Ts':=[101]) (B':=w.heap.size) (fun _ h=>h) (by omega)
     have pc7:=HPC6.out.mt m7 (by decide) (by decide) (by decide)
     have tk7:=HTK6.out.mt m7 (by decide)
     have x7:=pc7.q.cell 1
     have d7:=tk7.cell 1
     simp only[List.getElem?_toArray,List.getElem?_cons_zero,List.getElem?_cons_succ] at x7 d7
     have hq7:=pc7.q.lt
     have ht7:=tk7.lt
     have hh7:w7.ownsRow w.heap.size 64 2 (.slice qa ys.length qc) ys.length ((ys.map clC).flatMap Col.cells):=by
      have:=pc7.cols
      unfold ColsOwn at this
      rw[List.length_map] at this
      exact this
     have hw7:=pc7.below.size
     have HPC7:=Lib.hid pc7
     have HTK7:=Lib.hid tk7
     have HH7:=Lib.hid hh7
     have HL7:=Lib.hid hl7
     clear pc7 tk7 hh7 hl7 m7 hm7 HPC6 HTK6 HW6
     go_wp2_with (at_builtin;refine wpList_append_lies _ rfl (.tmp 34) (.tmp 39) 23 rfl w.heap.size 64 ic (.agg #[.string ⟨#[]⟩,.int .i64 0]) 2 24 Tryz.underlying23 hic hk0 hk1 hk2 rfl (by decide) (.slice qa ys.length qc) ys.length _ rfl (HH7.out.alloc _) ⟨_,0,none⟩ 1 1 [.string ⟨t.x.toArray⟩,.int .i64 1] rfl rfl (World.news_of_block (Blk.new _ _ _)) (by simp [Value.oneCell']) (by decide) ?c3 ?c5 ?c4 _ rfl ?_)
     case c3=>unfold maxLen;omega
     case c5=>omega
     case c4=>simp;omega
     intro g cap1 w8 hown8 hgrow8 hat8 hlt8
     have bka:Below w7.heap.size w7 (w7.alloc (.cells #[.string ⟨t.x.toArray⟩,.int .i64 1] 64)):=balloc (Below.refl _ _) _
     have pca:=HPC7.out.keep bka
     have lna:=HL7.out.keep bka
     have tka:=HTK7.out.alloc (.cells #[.string ⟨t.x.toArray⟩,.int .i64 1] 64)
     obtain⟨pc9,m9⟩:=pca.setCols (cv':=.slice (some ⟨g,0,none⟩) (ys.length+1) cap1) (cs':=ys.map clC++[⟨t.x,1⟩]) hgrow8 (by
      unfold ColsOwn
      rw[List.length_append,List.length_map,List.flatMap_append]
      simpa [Col.cells] using hown8)
     have m8:MT w.heap.size [64] _ w8:=(MT.refl _).grown hgrow8 pca.cols (by simp) (Nat.le_refl _)
     have q8:=pca.q.mt m8 (by decide)
     have x8:=q8.cell 1
     have y8:=q8.frozen 1
     have hq8:=q8.lt
     have tk8:=tka.mt m8 (by decide)
     have d8:=tk8.cell 5
     have hk8:=tk8.lt
     simp only[List.getElem?_toArray,List.getElem?_cons_zero,List.getElem?_cons_succ] at x8 d8
     have hne8:w2.heap.size≠w5.heap.size:=by omega
     have ln9:=lna.mt m9 (by decide) (by decide)
     have ho9:=pc9.pl
     unfold IntsO at ho9
     simp only[List.length_map] at ho9
     have hw9:w.heap.size<=w8.heap.size:=by have:=pc9.below.size;simpa using this
     have HPC9:=Lib.hid pc9
     have HLN9:=Lib.hid ln9
     have HO9:=Lib.hid ho9
     clear bka pca lna tka pc9 m9 m8 q8 tk8 ln9 ho9 hown8 hgrow8 hat8 hlt8
     go_wp2_with (at_builtin;refine wpList_append_lies _ rfl (.tmp 42) (.tmp 45) 130 rfl w.heap.size 3 ii (.int .i64 0) 1 8 Tryz.underlying130 hii hn0 hn1 hn2 rfl (by decide) (.slice ha ys.length hc) ys.length _ rfl (HO9.out.alloc _) ⟨_,0,none⟩ 1 1 [.int .i64 t.p] rfl rfl (World.news_of_block (blkNewS _ _ _ _ _)) (by simp [Value.oneCell']) (by decide) ?d3 ?d5 ?d4 _ rfl ?_)
     case d3=>unfold maxLen;omega
     case d5=>omega
     case d4=>simp;omega
     intro g2 cap2 wa howna hgrowa hata hlta
     have bkb:Below (w8.setCell ⟨w2.heap.size,1,none⟩ (.slice (some ⟨g,0,none⟩) (ys.length+1) cap1)).heap.size (w8.setCell ⟨w2.heap.size,1,none⟩ (.slice (some ⟨g,0,none⟩) (ys.length+1) cap1)) ((w8.setCell ⟨w2.heap.size,1,none⟩ (.slice (some ⟨g,0,none⟩) (ys.length+1) cap1)).alloc (.cells #[.int .i64 t.p] 3)):=balloc (Below.refl _ _) _
     have pcb:=HPC9.out.keep bkb
     obtain⟨pcc,mc⟩:=pcb.setPl (pv':=.slice (some ⟨g2,0,none⟩) (ys.length+1) cap2) (ps':=ys.map (·.2.2)++[t.p]) hgrowa (by
      unfold IntsO
      rw[List.length_append,List.length_map]
      simpa using howna)
     have HPCC:=Lib.hid pcc
     have HLNC:=Lib.hid ((HLN9.out.keep bkb).mt mc (by decide) (by decide))
     clear bkb pcb pcc mc howna hgrowa hata hlta
     go_wp2_with fail
     go_roundw
     case rel =>
      exact⟨sc,ys++[(t.x,1,t.p)],f,some ⟨g2,0,none⟩,some ⟨g,0,none⟩,cap2,cap1,by simp,by simp;omega,hmc,by simp,HGC,HGL2,HLNC,Lib.hid (by simpa [clC] using HPCC.out)⟩
     case measure=>simp;omega
theorem refSch_line (s:ByteArray) (w:World) (hs:s.size<=281474976710656) (hg:Glob w) :
 Calls Tryz.prog 56 #[.string s] w (SPost w (refS (startS (lexR s.data.toList)))):=by
 refine refSch_any s w _ (startS_good _) ?_
 refine (refOpen_any s _ hs (hg.below (balloc (Below.refl _ _) _))).mono ?_
 rintro e w' ⟨b,vt,rfl,h1,h2,h3⟩
 have e1:(w.alloc (.cells #[.string ⟨#[]⟩,.slice none 0 0] 25)).heap.size=w.heap.size+1:=by simp
 rw[e1] at h1 h3
 exact⟨b,vt,rfl,h1,h2,h3⟩
theorem sch_any (s:ByteArray) (w:World) (hs:s.size<=281474976710656) (hg:Glob w) :
 Calls Tryz.prog 23 #[.string s] w (SPost w (refS (startS (lexR s.data.toList)))):=by
 unfold startS
 by_cases he:(lexR s.data.toList).e=0
 ·rw[if_pos he,refS_ok (lex_ended he).1]
  exact sch_line s w hs hg he
 ·rw[if_neg he,refS_bad]
  exact sch_fault s w hs hg he
theorem refS_small {l:List UInt8} {q:Rln} {c:List Tok} (h:refS (startS (lexR l))=.ok q c):q.cols.length<=5:=by
 unfold startS at h
 by_cases he:(lexR l).e=0
 ·rw[if_pos he,refS_ok (lex_ended he).1] at h
  exact schT_small h
 ·rw[if_neg he,refS_bad] at h
  cases h
end Go.Proofs.YtamjadghncnbcaaGreatDoor
