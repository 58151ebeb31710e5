/- osierref09.Parse, walked. -/
import Derived.Test.YtamjadghncnbcaaGreatDoorGgW
namespace Go.Proofs.YtamjadghncnbcaaGreatDoor
open Go.RowKit
set_option linter.unusedVariables false
set_option maxHeartbeats 16000000 in
set_option maxRecDepth 100000 in
theorem refParse_any (s0:ByteArray) (w:World) (S0:LS) (hg:Good S0)
 (hop:Calls Tryz.prog 51 #[.string s0] (w.alloc (.cells #[.string ⟨#[]⟩,.slice none 0 0,.slice none 0 0] 29)) fun e w'=>∃ b vt,e=.returned (.pointer (some ⟨b,0,none⟩))/\w.heap.size+1<=b/\Ln w' b S0 vt/\Below (w.heap.size+1) (w.alloc (.cells #[.string ⟨#[]⟩,.slice none 0 0,.slice none 0 0] 29)) w') :
 Calls Tryz.prog 57 #[.string s0] w (QPost w (refQ S0)):=by
 obtain⟨i0,hi0,hz0,hz1,hz2⟩:=info_parts Tryz.infoStr
 obtain⟨it,hit,ht0,ht1,ht2⟩:=info_parts Tryz.infoTrm
 obtain⟨ia0,hia,ha0,ha1,ha2⟩:=info_parts Tryz.infoAtm
 obtain⟨ii,hii,hn0,hn1,hn2⟩:=info_parts Tryz.infoInt
 have hf1:∀ (a b c d e f:Value) (w:World),(Instr.field 105 (.agg #[a,b,c,d,e,f]) 1).run Tryz.prog w=.ok b w:=fun _ _ _ _ _ _ _=>by kernel_rfl
 obtain⟨Q,hQ⟩:∃ Q,Q=refQ S0:=⟨_,rfl⟩
 rw[<-hQ]
 rw[refQ_q1] at hQ
 have HO:=Lib.hid hop
 clear hop
 go_enter Tryz.func57,Tryz.ntmps57
 go_wp2_with fail
 refine HO.out.mono ?_
 rintro e w1 ⟨b,vt,rfl,hb0,hl,hb⟩
 have r1:=(Blk.new w 29 #[.string ⟨#[]⟩,.slice none 0 0,.slice none 0 0]).below hb (by simp)
 have hbw:Below w.heap.size w w1:=(balloc (Below.refl _ _) _).trans (hb.mono (by simp))
 have hw1:=want_ln hl hg 1 []
 have hg1:Good (wantS 1 [] S0).2:=want_good (by decide) hg
 generalize wantS 1 [] S0=X at hw1 hg1 hQ
 obtain⟨t0,s1⟩:=X
 simp only at hw1 hg1
 have HW1:=Lib.hid hw1
 have HR1:=Lib.hid r1
 have HB1:=Lib.hid hbw
 have HG1:=Lib.hid hg1
 have HQ1:=Lib.hid hQ
 clear hw1 r1 hbw hg1 hQ hl hb hg HO
 unfold Tok.v at HW1
 go_wp2_with fail
 refine HW1.out.mono ?_
 rintro e w2 ⟨rfl,hl2,hm2⟩
 have hbw2:w.heap.size<=w2.heap.size:=by have:=HB1.out.size;have:=hm2.size;omega
 have hm2':MT w.heap.size [101] w1 w2:=hm2.mono (fun _ h=>h) (by omega)
 have hr2:=HR1.out.mt hm2' (by decide)
 have hrl2:=hr2.lt
 have hpc:PC w (w2.alloc (.cells #[.string ⟨t0.x.toArray⟩,.slice none 0 0,.slice none 0 0] 29)) w2.heap.size t0.x (.slice none 0 0) (.slice none 0 0) [] [] :=
  ⟨Blk.new _ _ _,hr2.alloc _,World.ownsRow_nil _ _ _ _,⟨[],World.ownsRow_nil _ _ _ _,trivial⟩,balloc (HB1.out.trans (hm2'.below HB1.out.size)) _,hrl2⟩
 have hl3:=hl2.keep (balloc (Below.refl _ w2) (.cells #[.string ⟨t0.x.toArray⟩,.slice none 0 0,.slice none 0 0] 29))
 have hw2:=want_ln hl3 HG1.out 3 [40]
 have hg2:Good (wantS 3 [40] s1).2:=want_good (by decide) HG1.out
 have hq:=HQ1.out
 unfold q1 at hq
 simp only at hq
 generalize wantS 3 [40] s1=X at hw2 hg2 hq
 obtain⟨t1,s2⟩:=X
 simp only at hw2 hg2
 have HW2:=Lib.hid hw2
 have HPC:=Lib.hid hpc
 have HG2:=Lib.hid hg2
 have HQ2:=Lib.hid hq
 clear hw2 hpc hg2 hq hl2 hl3 hm2 hm2' hr2 HW1 HR1 HQ1 HG1
 unfold Tok.v at HW2
 go_wp2_with fail
 refine HW2.out.mono ?_
 rintro e w3 ⟨rfl,hl3,hm3⟩
 have hm3':=hm3.mono (Ts':=[101]) (B':=w.heap.size) (fun _ h=>h) (by omega)
 have hpc3:=HPC.out.mt hm3' (by decide) (by decide) (by decide) (by decide)
 have hq:=HQ2.out
 unfold q2a at hq
 simp only at hq
 have hme:=ln_meas hl3
 obtain⟨G1,hG1⟩:∃ G1,gloop nameS (meas s2+1) s2 []=G1:=⟨_,rfl⟩
 rw[hG1] at hq
 have HG1:=Lib.hid hG1
 have HQ3:=Lib.hid hq
 have HL3:=Lib.hid hl3
 have HPC3:=Lib.hid hpc3
 have HP3:=Lib.hid (P3.start w.heap.size w3)
 clear hm3 hm3' hpc3 hq hG1 hl3 HW2 HQ2 HPC
 go_wp2_with fail
 go_loopw [7] (fun vh wr=>∃ (s:LS) (ys:List NmP) (f:Nat) (ha qa:Option Addr) (hc qc:Nat),vh=.slice ha ys.length hc/\ys.length+f<=300000/\meas s<=f/\(ys=[]->meas s<f)/\Hid (Good s)/\Hid (gloop nameS f s ys=G1)/\Hid (Ln wr b s vt)/\Hid (PC w wr w2.heap.size t0.x (.slice qa ys.length qc) (.slice none 0 0) (ys.map (·.1)) [])/\Hid (P3 w.heap.size wr (.slice ha ys.length hc) (.slice none 0 0) (.slice none 0 0) (ys.map (·.2)) [] [])) (fun v _=>300000 - (match v with | .slice _ n _=>n | _=>0))
 case atStart=>exact⟨s2,[],meas s2+1,none,none,0,0,rfl,by simp;omega,by omega,fun _=>by omega,HG2,HG1,HL3,HPC3,HP3⟩
 case round =>
  obtain⟨s,ys,f,ha,qa,hc,qc,rfl,hbd,hf,hf0,HGs,HL,LN,PCr,PPr⟩:=hrel
  have hmo:=more_ln LN.out HGs.out ys.length (by omega)
  have hgm:Good (moreS ys.length s).2:=more_good HGs.out
  have x1:=PCr.out.q.cell 1
  simp only[List.getElem?_toArray,List.getElem?_cons_zero,List.getElem?_cons_succ] at x1
  have hql:=PCr.out.q.lt
  have hwr:=PCr.out.below.size
  cases hc1:(moreS ys.length s).1 with
  | false =>
    rw[hc1,more_false hc1] at hmo
    have hgl:=HL.out
    rw[gloop_end nameS f hc1] at hgl
    have HM:=Lib.hid hmo
    have HGE:=Lib.hid hgl
    clear hmo hgm hc1 hgl
    go_wp2_with fail
    refine HM.out.mono ?_
    rintro e w4 ⟨rfl,hl4,hm4⟩
    have hm4':=hm4.mono (Ts':=[101]) (B':=w.heap.size) (fun _ h=>h) (by omega)
    have HPC4:=Lib.hid (PCr.out.mt hm4' (by decide) (by decide) (by decide) (by decide))
    have HPP4:=Lib.hid (PPr.out.mt hm4' (by decide))
    have HL4:=Lib.hid hl4
    clear hm4 hm4' hl4
    have hq:=HQ3.out
    rw[<-HGE.out] at hq
    unfold q2b at hq
    simp only at hq
    have hw5:=want_ln HL4.out HGs.out 3 [41]
    have hg5:Good (wantS 3 [41] s).2:=want_good (by decide) HGs.out
    generalize wantS 3 [41] s=X at hw5 hg5 hq
    obtain⟨t2,s3⟩:=X
    simp only at hw5 hg5
    have HW5:=Lib.hid hw5
    have HG5:=Lib.hid hg5
    have HQ4:=Lib.hid hq
    clear hw5 hg5 hq HQ3 HGE HL HGs HG1 HM
    unfold Tok.v at HW5
    go_wp2_with fail
    refine HW5.out.mono ?_
    rintro e w5 ⟨rfl,hl5,hm5⟩
    have hm5':=hm5.mono (Ts':=[101]) (B':=w.heap.size) (fun _ h=>h) (by omega)
    have HPC5:=Lib.hid (HPC4.out.mt hm5' (by decide) (by decide) (by decide) (by decide))
    have HPP5:=Lib.hid (HPP4.out.mt hm5' (by decide))
    have hq:=HQ4.out
    unfold q2c at hq
    simp only at hq
    have hw6:=want_ln hl5 HG5.out 3 [58,45]
    have hg6:Good (wantS 3 [58,45] s3).2:=want_good (by decide) HG5.out
    generalize wantS 3 [58,45] s3=X at hw6 hg6 hq
    obtain⟨t3,s4⟩:=X
    simp only at hw6 hg6
    have HW6:=Lib.hid hw6
    have HG6:=Lib.hid hg6
    have HQ5:=Lib.hid hq
    clear hw6 hg6 hq HQ4 HW5 HG5 hl5 hm5 hm5' HPC4 HPP4 HL4
    unfold Tok.v at HW6
    go_wp2_with fail
    refine HW6.out.mono ?_
    rintro e w6 ⟨rfl,hl6,hm6⟩
    have hm6':=hm6.mono (Ts':=[101]) (B':=w.heap.size) (fun _ h=>h) (by omega)
    have hq:=HQ5.out
    unfold q2d at hq
    simp only at hq
    have hme6:=ln_meas hl6
    obtain⟨G2,hG2⟩:∃ G,atomsS s4=G:=⟨_,rfl⟩
    rw[hG2] at hq
    have HQ6:=Lib.hid hq
    have HAL6:Hid (ALp s4 [] G2):=Lib.hid (.inl ⟨rfl,hG2,hme6⟩)
    have HPC6:=Lib.hid (HPC5.out.mt hm6' (by decide) (by decide) (by decide) (by decide))
    have HPP6:=Lib.hid (HPP5.out.mt hm6' (by decide))
    have HL6:=Lib.hid hl6
    clear hq hG2 hl6 hm6 hm6' HQ5 HPC5 HPP5 HW6
    generalize hN:ys.length=N at *
    have HN:=Lib.hid hN
    clear hN
    go_wp2_with fail
    go_loopw [8,9] (fun vr vo wr=>∃ (s:LS) (al:List AtP) (ra oa aa:Option Addr) (rc oc ac:Nat),vr=.slice ra al.length rc/\vo=.slice oa (overOf al).length oc/\Hid (Good s)/\Hid (ALp s al G2)/\Hid (Ln wr b s vt)/\Hid (PC w wr w2.heap.size t0.x (.slice qa N qc) (.slice aa al.length ac) (ys.map (·.1)) (al.map convA))/\Hid (P3 w.heap.size wr (.slice ra al.length rc) (.slice oa (overOf al).length oc) (.slice ha N hc) (al.map (·.1.2)) (overOf al) (ys.map (·.2)))) (fun v _ _=>300000 - (match v with | .slice _ n _=>n | _=>0))
    case atStart=>exact⟨s4,[],none,none,none,0,0,0,rfl,rfl,HG6,HAL6,HL6,HPC6,Lib.hid HPP6.out.rot⟩
    case round =>
     obtain⟨s,al,ra,oa,aa,rc,oc,ac,rfl,rfl,HGs,HAL,LN,PCr,PPr⟩:=hrel
     obtain⟨wr0,rfl⟩:∃ wr0:World,wr0=wr:=⟨_,rfl⟩
     have hall:=HAL.out.len
     have x2:=PCr.out.q.cell 2
     simp only[List.getElem?_toArray,List.getElem?_cons_zero,List.getElem?_cons_succ] at x2
     have hql:=PCr.out.q.lt
     have hwr:=PCr.out.below.size
     have habc:(al.length=0∨(al.length≠0/\(moreS al.length s).1=true))∨(al.length≠0/\(moreS al.length s).1=false):=by
      by_cases h0:al.length=0
      ·exact .inl (.inl h0)
      ·cases hc1:(moreS al.length s).1
       ·exact .inr ⟨h0,rfl⟩
       ·exact .inl (.inr ⟨h0,rfl⟩)
     rcases habc with hAB | ⟨h0,hc1⟩
     ·rcases hAB with h0 | ⟨h0,hc1⟩
      case' inl =>
       have hz:((al.length:Int) == 0)=true:=by simp [h0]
       have HFA:=Lib.hid (HAL.out.first (List.eq_nil_of_length_eq_zero h0))
       obtain⟨sa,rfl⟩:∃ sa,sa=s:=⟨_,rfl⟩
       obtain⟨wa,rfl⟩:∃ wa:World,wa=wr0:=⟨_,rfl⟩
       have HGA:=HGs
       have HLA:=LN
       have HPCA:=PCr
       have HPPA:=PPr
       clear HAL HGs LN PCr PPr h0
       go_wp2_with fail
      case' inr =>
       have hz:((al.length:Int) == 0)=false:=by rw[beq_eq_false_iff_ne];omega
       have HFA:=Lib.hid (HAL.out.more (fun e=>h0 (by rw[e];rfl)) HGs.out hc1)
       have hmo:=more_ln LN.out HGs.out al.length (by omega)
       rw[hc1] at hmo
       have HGA:=Lib.hid (more_good (n:=al.length) HGs.out)
       generalize (moreS al.length s).2=sa at HFA hmo HGA
       have HM:=Lib.hid hmo
       clear hmo HAL HGs hc1 h0
       go_wp2_with fail
       refine HM.out.mono ?_
       rintro e wa ⟨rfl,hla,hma⟩
       have hma':=hma.mono (Ts':=[101]) (B':=w.heap.size) (fun _ h=>h) (by omega)
       have HPCA:=Lib.hid (PCr.out.mt hma' (by decide) (by decide) (by decide) (by decide))
       have HPPA:=Lib.hid (PPr.out.mt hma' (by decide))
       have HLA:=Lib.hid hla
       clear hla hma hma' LN PCr PPr HM
       go_wp2_with fail
      all_goals
       have hfa:=HFA.out
       rw[atomS_atS1] at hfa
       have hw7:=want_ln HLA.out HGA.out 1 []
       have hg7:Good (wantS 1 [] sa).2:=want_good (by decide) HGA.out
       generalize wantS 1 [] sa=X at hw7 hg7 hfa
       obtain⟨t,sb⟩:=X
       simp only[atS1] at hw7 hg7 hfa
       have HW7:=Lib.hid hw7
       have HG7:=Lib.hid hg7
       have HFB:=Lib.hid hfa
       clear hfa hw7 hg7 HFA
       refine HW7.out.mono ?_
       rintro e wb ⟨rfl,hlb,hmb⟩
       have hmb':=hmb.mono (Ts':=[101]) (B':=w.heap.size) (fun _ h=>h) (by omega)
       have pcb:=HPCA.out.mt hmb' (by decide) (by decide) (by decide) (by decide)
       have ppb:=HPPA.out.mt hmb' (by decide)
       have hob:=ppb.o1
       unfold IntsO at hob
       simp only[List.length_map] at hob
       have hwb:=pcb.below.size
       have hbb:=hlb.lt
       have HPCB:=Lib.hid pcb
       have HPPB:=Lib.hid ppb
       have HOB:=Lib.hid hob
       have HLB:=Lib.hid hlb
       clear hlb hmb hmb' pcb ppb hob HPCA HPPA HLA HW7
       unfold Tok.v
       go_wp2_with (at_builtin;refine wpList_append_lies _ rfl (.tmp 63) (.tmp 66) 130 rfl w.heap.size 3 ii (.int .i64 0) 1 8 Tryz.underlying130 hii hn0 hn1 hn2 rfl (by decide) (.slice ra al.length rc) al.length _ rfl (((HOB.out.alloc _).alloc _).alloc _) ⟨_,0,none⟩ 1 1 [.int .i64 t.p] rfl rfl (World.news_of_block (blkNew2 _ _ _ _ _)) (by simp [Value.oneCell']) (by decide) ?d3 ?d5 ?d4 _ rfl ?_)
       case d3=>unfold maxLen;omega
       case d5=>omega
       case d4=>simp;omega
       intro g cap1 wc hownc hgrowc hatc hltc
       have bk:Below wb.heap.size wb (((wb.alloc (.cells #[.int .i64 t.k,.string ⟨t.x.toArray⟩,.int .i64 t.vk,.int .i64 t.vn,.string ⟨t.vt.toArray⟩,.int .i64 t.p] 105)).alloc (.cells #[.string ⟨t.x.toArray⟩,.slice none 0 0] 67)).alloc (.cells #[.int .i64 t.p] 3)):=balloc (balloc (balloc (Below.refl _ _) _) _) _
       have ppk:=HPPB.out.keep bk
       have mc:MT w.heap.size [3] _ wc:=(MT.refl _).grown hgrowc ppk.o1 (by simp) (Nat.le_refl _)
       have ppc:P3 w.heap.size wc (.slice (some ⟨g,0,none⟩) (al.length+1) cap1) (.slice oa (overOf al).length oc) (.slice ha N hc) (al.map (·.1.2)++[t.p]) (overOf al) (ys.map (·.2)):=by
        have:=ppk.grow (p:=t.p) hgrowc (by simpa using hownc) (by simpa using hatc)
        simpa using this
       have lnc:=(HLB.out.keep bk).mt mc (by decide) (by decide)
       have abc:=((blkNew1 wb (.cells #[.int .i64 t.k,.string ⟨t.x.toArray⟩,.int .i64 t.vk,.int .i64 t.vn,.string ⟨t.vt.toArray⟩,.int .i64 t.p] 105) 67 #[.string ⟨t.x.toArray⟩,.slice none 0 0]).alloc (.cells #[.int .i64 t.p] 3)).mt mc (by decide)
       have inc:IN w wb wc b (wb.heap.size+1) vt sb t.x (.slice none 0 0) [] (.slice oa (overOf al).length oc) (.slice ha N hc) (.slice (some ⟨g,0,none⟩) (al.length+1) cap1) (overOf al) (ys.map (·.2)) (al.map (·.1.2)++[t.p]) :=
        ⟨lnc,(MT.ofBelow bk).trans (mc.wide (by simp)),abc,World.ownsRow_nil _ _ _ _,ppc.rot⟩
       have hfa:=HFB.out
       have hw8:=want_ln lnc HG7.out 3 [40]
       have hg8:Good (wantS 3 [40] sb).2:=want_good (by decide) HG7.out
       generalize wantS 3 [40] sb=X at hw8 hg8 hfa
       obtain⟨t4,sc⟩:=X
       simp only[atS1b] at hw8 hg8 hfa
       obtain⟨G3,hG3⟩:∃ G,gloop termS (meas sc+1) sc []=G:=⟨_,rfl⟩
       rw[hG3] at hfa
       have HW8:=Lib.hid hw8
       have HG8:=Lib.hid hg8
       have HFC:=Lib.hid hfa
       have HG3:=Lib.hid hG3
       have HIC:=Lib.hid inc
       clear bk ppk mc ppc lnc abc inc hfa hw8 hg8 hG3 hownc hgrowc hatc hltc HFB HG7 HOB HPPB HLB
       unfold Tok.v at HW8
       go_wp2_with fail
       refine HW8.out.mono ?_
       rintro e wd ⟨rfl,hld,hmd⟩
       have hmed:=ln_meas hld
       have HID:=Lib.hid (HIC.out.line hmd hld (by omega))
       clear hld hmd HIC HW8
       go_wp2_with fail
       go_loopw [9] (fun vo wr=>∃ (s:LS) (xs:List (Trm × Int)) (f:Nat) (ov:List Int) (oa ja:Option Addr) (oc jc:Nat),vo=.slice oa ov.length oc/\Hid (ov=overOf al++lo xs)/\xs.length+f<=200010/\meas s<=f/\(xs=[]->meas s<f)/\Hid (Good s)/\Hid (gloop termS f s xs=G3)/\Hid (IN w wb wr b (wb.heap.size+1) vt s t.x (.slice ja xs.length jc) xs (.slice oa ov.length oc) (.slice ha N hc) (.slice (some ⟨g,0,none⟩) (al.length+1) cap1) ov (ys.map (·.2)) (al.map (·.1.2)++[t.p]))) (fun _ wr=>300000 - (match wr.cell? ⟨wb.heap.size+1,1,none⟩ with | some (.slice _ n _)=>n | _=>0))
       case atStart=>exact⟨sc,[],meas sc+1,overOf al,oa,none,oc,0,rfl,Lib.hid (by simp [lo]),by simp;omega,by omega,fun _=>by omega,HG8,HG3,HID⟩
       case round =>
        obtain⟨s3,xs,f,ov,oa3,ja,oc3,jc,rfl,HOVE,hbd,hf,hf0,HGS,HGL,HIN⟩:=hrel
        obtain⟨we,rfl⟩:∃ we:World,we=wr:=⟨_,rfl⟩
        have hmo:=more_ln HIN.out.ln HGS.out xs.length (by omega)
        have x1:=HIN.out.ab.cell 1
        simp only[List.getElem?_toArray,List.getElem?_cons_zero,List.getElem?_cons_succ] at x1
        have xe:=x1
        have hovl:ov.length<=200001:=by
         rw[HOVE.out]
         have h1:=over_len al
         have h2:=lo_len xs
         rw[List.length_append]
         omega
        have habl:=HIN.out.ab.lt
        have hbe:=HIN.out.mt.size
        cases hc1:(moreS xs.length s3).1 with
        | false =>
          rw[hc1,more_false hc1] at hmo
          have hge:=HGL.out
          rw[gloop_end termS f hc1] at hge
          have hfa:=HFC.out
          rw[<-hge] at hfa
          simp only[atS2] at hfa
          have hw9:=fun W (h:Ln W b s3 vt)=>want_ln h HGS.out 3 [41]
          have hg9:Good (wantS 3 [41] s3).2:=want_good (by decide) HGS.out
          generalize wantS 3 [41] s3=X at hw9 hg9 hfa
          obtain⟨t5,se⟩:=X
          simp only at hw9 hg9 hfa
          have HM:=Lib.hid hmo
          have HW9:=Lib.hid hw9
          have HG9:=Lib.hid hg9
          have HFD:=Lib.hid hfa
          clear hmo hge hfa hw9 hg9 hc1 HGL HGS hf hf0 HFC
          unfold Tok.v at HW9
          go_wp2_with fail
          refine HM.out.mono ?_
          rintro e wf ⟨rfl,hlf,hmf⟩
          have inf:=HIN.out.line hmf hlf (by omega)
          have HWF:=Lib.hid (HW9.out _ inf.ln)
          have HINF:=Lib.hid inf
          clear inf hlf hmf HM HIN HW9
          go_wp2_with fail
          refine HWF.out.mono ?_
          rintro e wg ⟨rfl,hlg,hmg⟩
          have ing:=HINF.out.line hmg hlg (by omega)
          have pcg:=HPCB.out.mt ing.mt (by decide) (by decide) (by decide) (by decide)
          obtain⟨rows,hro,hra⟩:=pcg.atoms
          simp only[List.length_map] at hro
          have x2:=pcg.q.cell 2
          have a0:=ing.ab.cell 0
          have a1:=ing.ab.cell 1
          simp only[List.getElem?_toArray,List.getElem?_cons_zero,List.getElem?_cons_succ] at x2 a0 a1
          have hqg:=pcg.q.lt
          have hag:=ing.ab.lt
          have hwg:=pcg.below.size
          have HING:=Lib.hid ing
          have HPCG:=Lib.hid pcg
          have HRO:=Lib.hid hro
          have HRA:=Lib.hid hra
          clear ing pcg hro hra hlg hmg HINF HWF
          go_wp2_with (at_builtin;refine wpList_append_lies _ rfl (.tmp 111) (.tmp 113) 27 rfl w.heap.size 67 ia0 (.agg #[.string ⟨#[]⟩,.slice none 0 0]) 2 40 Tryz.underlying27 hia ha0 ha1 ha2 rfl (by decide) (.slice aa al.length ac) al.length _ rfl (HRO.out.alloc _) ⟨_,0,none⟩ 1 1 [.string ⟨t.x.toArray⟩,.slice ja xs.length jc] rfl rfl (World.news_of_block (Blk.new _ _ _)) (by simp [Value.oneCell']) (by decide) ?v3 ?v5 ?v4 _ rfl ?_)
          case v3=>unfold maxLen;omega
          case v5=>omega
          case v4=>simp;omega
          intro g5 cap5 wh hown5 hgrow5 hat5 hlt5
          have bk:Below wg.heap.size wg (wg.alloc (.cells #[.string ⟨t.x.toArray⟩,.slice ja xs.length jc] 67)):=balloc (Below.refl _ _) _
          have pck:=HPCG.out.keep bk
          have hrok:=HRO.out.alloc (.cells #[.string ⟨t.x.toArray⟩,.slice ja xs.length jc] 67)
          have hrow:AtmO w.heap.size (wg.alloc (.cells #[.string ⟨t.x.toArray⟩,.slice ja xs.length jc] 67)) [.string ⟨t.x.toArray⟩,.slice ja xs.length jc] (convA ((t.x,t.p),xs)):=⟨_,rfl,by
           have:=World.ownsRow.low (HING.out.tr.alloc (.cells #[.string ⟨t.x.toArray⟩,.slice ja xs.length jc] 67)) hwb
           simpa [convA,List.flatMap_map] using this⟩
          obtain⟨pcs,ms⟩:=pck.setAtoms (qa':=.slice (some ⟨g5,0,none⟩) (al.length+1) cap5) (rows:=rows) (by simpa using hrok) (HRA.out.mono fun b a h=>h.mt (MT.ofBelow (B:=0) (Ts:=[]) bk) (by simp)) hgrow5 hrow (by simpa using hown5)
          have m5:MT w.heap.size [67] _ wh:=(MT.refl _).grown hgrow5 hrok (by simp) (Nat.le_refl _)
          have q5:=pck.q.mt m5 (by decide)
          have z2:=q5.cell 2
          have zy:=q5.frozen 2
          have zl:=q5.lt
          simp only[List.getElem?_toArray,List.getElem?_cons_zero,List.getElem?_cons_succ] at z2
          have ink:=HING.out.keep bk
          have HLK:=Lib.hid (ink.ln.mt ms (by decide) (by decide))
          have HPK:=Lib.hid ((ink.p3.mt ms (by decide)).rot.rot)
          have HPCS:=Lib.hid pcs
          clear bk pck hrok hrow pcs ms m5 q5 ink hown5 hgrow5 hat5 hlt5
          go_wp2_with fail
          go_roundw
          case rel =>
           obtain⟨f2,k1,k2,k3⟩:=HFD.out
           refine⟨se,al++[((t.x,t.p),xs)],some ⟨g,0,none⟩,oa3,some ⟨g5,0,none⟩,cap1,oc3,cap5,by simp,by rw[over_snoc,<-HOVE.out],HG9,Lib.hid (ALp.next k1 k2 k3),HLK,Lib.hid (by simpa using HPCS.out),Lib.hid ?_⟩
           rw[over_snoc,<-HOVE.out]
           simpa using HPK.out
          case measure=>simp;omega
        | true =>
          obtain⟨f,rfl⟩:∃ g,f=g+1:=⟨f - 1,by have:=(more_meas HGS.out hc1).1;omega⟩
          have hgl:=HGL.out
          rw[gloop_go termS f hc1] at hgl
          obtain⟨hme1,hme2,hme3⟩:=more_meas HGS.out hc1
          have hme4:meas (moreS xs.length s3).2<=f:=by
           by_cases h0:xs=[]
           ·have:=hf0 h0;omega
           ·have:=hme3 (fun e=>h0 (List.eq_nil_of_length_eq_zero e));omega
          obtain⟨u,r,hu,heu⟩:=more_true hc1 HGS.out
          rw[hc1,hu] at hmo
          rw[hu] at hgl hme4
          have HM:=Lib.hid hmo
          have HGL2:=Lib.hid hgl
          have HEU:=Lib.hid heu
          clear hmo hgl heu hu hme1 hme2 hme3 hc1 HGL HGS hf hf0
          go_wp2_with fail
          refine HM.out.mono ?_
          rintro e wf ⟨rfl,hlf,hmf⟩
          have inf:=HIN.out.line hmf hlf (by omega)
          have hnx:=next_ln inf.ln
          have HINF:=Lib.hid inf
          have HNX:=Lib.hid hnx
          have hwf:=hmf.size
          clear inf hnx hlf hmf HM HIN
          go_wp2_with fail
          refine HNX.out.mono ?_
          rintro e wg ⟨rfl,hbg⟩
          have ing:=HINF.out.keep hbg
          have hwg:=hbg.size
          have x1:=ing.ab.cell 1
          simp only[List.getElem?_toArray,List.getElem?_cons_zero,List.getElem?_cons_succ] at x1
          have hagl:=ing.ab.lt
          have HING:=Lib.hid ing
          have hne:wb.heap.size+1≠wg.heap.size:=by omega
          clear ing hbg HNX HINF
          unfold Tok.v
          by_cases hk2:u.k=2
          case' pos =>
           have hkq:(u.k == 2)=true:=by simp [hk2]
           have hts:termS (.ok (u::r))=((⟨[],u.vk,u.vn,u.vt⟩,u.p),(wantS 2 [] (.ok (u::r))).2):=if_pos hk2
           have hgl:=HGL2.out
           rw[hts] at hgl
           have hing:=HING.out.keep (balloc (Below.refl _ wg) (.cells #[.int .i64 u.k,.string ⟨u.x.toArray⟩,.int .i64 u.vk,.int .i64 u.vn,.string ⟨u.vt.toArray⟩,.int .i64 u.p] 105))
           have hw9:=want_ln hing.ln (show Good (.ok (u::r)) from HEU.out) 2 []
           have hg9:Good (wantS 2 [] (.ok (u::r))).2:=want_good (by decide) HEU.out
           have hwm:=want_meas 2 [] (.ok (u::r))
           generalize wantS 2 [] (.ok (u::r))=X at hw9 hg9 hwm hgl
           obtain⟨t5,sf⟩:=X
           simp only at hw9 hg9 hwm hgl
           have hmsf:meas sf<=f:=by omega
           obtain⟨x,hx⟩:∃ x:Trm × Int,(⟨[],u.vk,u.vn,u.vt⟩,u.p)=x:=⟨_,rfl⟩
           rw[hx] at hgl
           have hxp:u.p=x.2:=by rw[<-hx]
           have hxc:x.1.cells=[.string ⟨#[]⟩,.int .i64 u.vk,.int .i64 u.vn,.string ⟨u.vt.toArray⟩]:=by rw[<-hx];rfl
           have HW9:=Lib.hid hw9
           have HG9:=Lib.hid hg9
           have HGL3:=Lib.hid hgl
           have HXP:=Lib.hid hxp
           have HXC:=Lib.hid hxc
           clear hts hgl hing hw9 hg9 hwm hx hxp hxc hk2 HGL2 HEU
           unfold Tok.v at HW9
           go_wp2_with fail
           refine HW9.out.mono ?_
           rintro e wh ⟨rfl,hlh,hmh⟩
           have inh:=(HING.out.keep (balloc (Below.refl _ wg) (.cells #[.int .i64 u.k,.string ⟨u.x.toArray⟩,.int .i64 u.vk,.int .i64 u.vn,.string ⟨u.vt.toArray⟩,.int .i64 u.p] 105))).line hmh hlh (by omega)
           have tkh:=(Blk.new wg 105 #[.int .i64 u.k,.string ⟨u.x.toArray⟩,.int .i64 u.vk,.int .i64 u.vn,.string ⟨u.vt.toArray⟩,.int .i64 u.p]).mt hmh (by decide)
           have x1:=inh.ab.cell 1
           have d2:=tkh.cell 2
           have d3:=tkh.cell 3
           have d4:=tkh.cell 4
           simp only[List.getElem?_toArray,List.getElem?_cons_zero,List.getElem?_cons_succ] at x1 d2 d3 d4
           have hahl:=inh.ab.lt
           have htkl:=tkh.lt
           have HINH:=Lib.hid inh
           have HTR:=Lib.hid inh.tr
           have HTK:=Lib.hid tkh
           have hwh:=inh.mt.size
           clear inh tkh hlh hmh HW9 HING
           go_wp2_with (at_builtin;refine wpList_append_lies _ rfl (.tmp 83) (.tmp 87) 65 rfl wb.heap.size 71 it (.agg #[.string ⟨#[]⟩,.int .i64 0,.int .i64 0,.string ⟨#[]⟩]) 4 48 Tryz.underlying65 hit ht0 ht1 ht2 rfl (by decide) (.slice ja xs.length jc) xs.length _ rfl (HTR.out.alloc _) ⟨_,0,none⟩ 1 1 [.string ⟨#[]⟩,.int .i64 u.vk,.int .i64 u.vn,.string ⟨u.vt.toArray⟩] rfl rfl (World.news_of_block (Blk.new _ _ _)) (by simp [Value.oneCell']) (by decide) ?t3 ?t5 ?t4 _ rfl ?_)
           case t3=>unfold maxLen;omega
           case t5=>omega
           case t4=>simp;omega
           intro g3 cap3 wi hown3 hgrow3 hat3 hlt3
          case' neg =>
           have hkq:(u.k == 2)=false:=by simpa using hk2
           have hts:termS (.ok (u::r))=((⟨(wantS 1 [] (.ok (u::r))).1.x,0,0,[]⟩,u.p),(wantS 1 [] (.ok (u::r))).2):=if_neg hk2
           have hgl:=HGL2.out
           rw[hts] at hgl
           have hing:=HING.out.keep (bdrew (balloc (Below.refl _ wg) (.cells #[.int .i64 u.k,.string ⟨u.x.toArray⟩,.int .i64 u.vk,.int .i64 u.vn,.string ⟨u.vt.toArray⟩,.int .i64 u.p] 105)))
           have hw9:=want_ln hing.ln (show Good (.ok (u::r)) from HEU.out) 1 []
           have hg9:Good (wantS 1 [] (.ok (u::r))).2:=want_good (by decide) HEU.out
           have hwm:=want_meas 1 [] (.ok (u::r))
           generalize wantS 1 [] (.ok (u::r))=X at hw9 hg9 hwm hgl
           obtain⟨t5,sf⟩:=X
           simp only at hw9 hg9 hwm hgl
           have hmsf:meas sf<=f:=by omega
           obtain⟨x,hx⟩:∃ x:Trm × Int,(⟨t5.x,0,0,[]⟩,u.p)=x:=⟨_,rfl⟩
           rw[hx] at hgl
           have hxp:u.p=x.2:=by rw[<-hx]
           have hxc:x.1.cells=[.string ⟨t5.x.toArray⟩,.int .i64 0,.int .i64 0,.string ⟨#[]⟩]:=by rw[<-hx];rfl
           have HW9:=Lib.hid hw9
           have HG9:=Lib.hid hg9
           have HGL3:=Lib.hid hgl
           have HXP:=Lib.hid hxp
           have HXC:=Lib.hid hxc
           clear hts hgl hing hw9 hg9 hwm hx hxp hxc hk2 HGL2 HEU
           unfold Tok.v at HW9
           go_wp2_with fail
           go_region_law (first
            | (refine step_append_lies _ rfl (.tmp 91) (.tmp 96) 65 rfl wb.heap.size 71 it (.agg #[.string ⟨#[]⟩,.int .i64 0,.int .i64 0,.string ⟨#[]⟩]) 4 48 Tryz.underlying65 hit ht0 ht1 ht2 rfl (by decide) (.slice ja xs.length jc) xs.length _ rfl (HTR.out.alloc _) ⟨_,0,none⟩ 1 1 [.string ⟨t5.x.toArray⟩,.int .i64 0,.int .i64 0,.string ⟨#[]⟩] rfl rfl (World.news_of_block (Blk.new _ _ _)) (by simp [Value.oneCell']) (by decide) (by unfold maxLen;omega) (by omega) (by simp;omega) _ rfl ?_;intro g3 cap3 wi hown3 hgrow3 hat3 hlt3;have ai:=(HINH.out.ab.alloc (.cells #[.string ⟨t5.x.toArray⟩,.int .i64 0,.int .i64 0,.string ⟨#[]⟩] 71)).grown hgrow3 HNT.out;have z1:=ai.cell 1;have zy:=ai.frozen 1;have zl:=ai.lt;simp only[List.getElem?_toArray,List.getElem?_cons_zero,List.getElem?_cons_succ] at z1)
            | (go_simp;go_at_call 55;refine HW9.out.mono ?_;rintro e wh ⟨rfl,hlh,hmh⟩;have inh:=(HING.out.keep (bdrew (balloc (Below.refl _ wg) (.cells #[.int .i64 u.k,.string ⟨u.x.toArray⟩,.int .i64 u.vk,.int .i64 u.vn,.string ⟨u.vt.toArray⟩,.int .i64 u.p] 105)))).line hmh hlh (by omega);have tkh:=((Blk.new wg 105 #[.int .i64 u.k,.string ⟨u.x.toArray⟩,.int .i64 u.vk,.int .i64 u.vn,.string ⟨u.vt.toArray⟩,.int .i64 u.p]).drew).mt hmh (by decide);have x1h:=inh.ab.cell 1;simp only[List.getElem?_toArray,List.getElem?_cons_zero,List.getElem?_cons_succ] at x1h;have hahl:=inh.ab.lt;have htkl:=tkh.lt;have HINH:=Lib.hid inh;have HTR:=Lib.hid inh.tr;have HTK:=Lib.hid tkh;have hwh:=inh.mt.size;have HNT:=Lib.hid (fun e=>own_blk_ne inh.tr inh.ab (by decide) (Eq.symm e));clear inh tkh hlh hmh))
          all_goals
           have mi:MT wb.heap.size [71] _ wi:=(MT.refl _).grown hgrow3 (HTR.out.alloc _) (by simp) (Nat.le_refl _)
           have ai:=(HINH.out.ab.alloc _).mt mi (by decide)
           have tki:=(HTK.out.alloc _).mt mi (by decide)
           have z1:=ai.cell 1
           have zy:=ai.frozen 1
           have zl:=ai.lt
           have z5:=tki.cell 5
           have ztl:=tki.lt
           simp only[List.getElem?_toArray,List.getElem?_cons_zero,List.getElem?_cons_succ] at z1 z5
           have inj:=(HINH.out.keep (balloc (Below.refl _ wh) _)).term (x:=x) (jv':=.slice (some ⟨g3,0,none⟩) (xs.length+1) cap3) hgrow3 (by omega) (by rw[HXC.out];exact hown3)
           have hoj:=inj.p3.o1
           unfold IntsO at hoj
           have xj:=inj.ab.cell 1
           simp only[List.getElem?_toArray,List.getElem?_cons_zero,List.getElem?_cons_succ] at xj
           have hwi:wb.heap.size<=wi.heap.size:=by have:=mi.size;simp at this;omega
           have HINJ:=Lib.hid inj
           have HOJ:=Lib.hid hoj
           have HXJ:=Lib.hid xj
           have HXE:=Lib.hid xe
           clear mi ai tki inj hoj xj xe hown3 hgrow3 hat3 hlt3 HTK HTR HINH
           by_cases h6:xs.length=5
           ·have hq6:((xs.length:Int)+1 == 6)=true:=by rw[h6];rfl
            obtain⟨hl1,hl2⟩:=lo_six x h6
            have HL1:=Lib.hid hl1
            have HL2:=Lib.hid hl2
            clear hl1 hl2 h6
            go_wp2_with (at_builtin;refine wpList_append_lies _ rfl (.tmp 103) (.tmp 106) 130 rfl w.heap.size 3 ii (.int .i64 0) 1 8 Tryz.underlying130 hii hn0 hn1 hn2 rfl (by decide) (.slice oa3 ov.length oc3) ov.length _ rfl (HOJ.out.alloc _) ⟨_,0,none⟩ 1 1 [.int .i64 u.p] rfl rfl (World.news_of_block (blkNewS _ _ _ _ _)) (by simp [Value.oneCell']) (by decide) ?u3 ?u5 ?u4 _ rfl ?_)
            case u3=>unfold maxLen;omega
            case u5=>omega
            case u4=>simp;omega
            intro g4 cap4 wk hown4 hgrow4 hat4 hlt4
            have ink:=(HINJ.out.keep (balloc (Below.refl _ _) _)).over (p:=u.p) hgrow4 hown4 (by simpa using hat4)
            have xk:=ink.ab.cell 1
            simp only[List.getElem?_toArray,List.getElem?_cons_zero,List.getElem?_cons_succ] at xk
            have HINK:=Lib.hid ink
            have HXK:=Lib.hid xk
            clear ink xk hown4 hgrow4 hat4 hlt4
            go_wp2_with fail
            go_roundw
            case rel =>
             refine⟨sf,xs++[x],f,ov++[u.p],some ⟨g4,0,none⟩,some ⟨g3,0,none⟩,cap4,cap3,by simp,Lib.hid ?_,by simp;omega,hmsf,by simp,HG9,HGL3,Lib.hid ?_⟩
             ·rw[HOVE.out,HL1.out,HL2.out,HXP.out,List.append_nil]
             ·simpa using HINK.out
            case measure =>
             rw[HXK.out,HXE.out]
             simp
             omega
           ·have hq6:((xs.length:Int)+1 == 6)=false:=by rw[beq_eq_false_iff_ne];omega
            have HL1:=Lib.hid (lo_keep x h6)
            clear h6
            go_wp2_with fail
            go_roundw
            case rel =>
             refine⟨sf,xs++[x],f,ov,oa3,some ⟨g3,0,none⟩,oc3,cap3,rfl,Lib.hid ?_,by simp;omega,hmsf,by simp,HG9,HGL3,Lib.hid ?_⟩
             ·rw[HL1.out]
              exact HOVE.out
             ·simpa using HINJ.out
            case measure =>
             rw[HXJ.out,HXE.out]
             simp
             omega
     ·have hz:((al.length:Int) == 0)=false:=by rw[beq_eq_false_iff_ne];omega
      have hmo:=more_ln LN.out HGs.out al.length (by omega)
      rw[hc1,more_false hc1] at hmo
      have hge:=HAL.out.done (fun e=>h0 (by rw[e];rfl)) hc1
      have hq:=HQ6.out
      rw[hge] at hq
      unfold q3 at hq
      simp only at hq
      have hnb:NB (wantS 0 [] s).2:=want0_nb HGs.out
      have hw7:=fun W (h:Ln W b s vt)=>want_ln h HGs.out 0 []
      generalize wantS 0 [] s=X at hnb hw7 hq
      obtain⟨t5,s5⟩:=X
      simp only[q4] at hnb hw7 hq
      have HM:=Lib.hid hmo
      have HW7:=Lib.hid hw7
      have HNB:=Lib.hid hnb
      have HQ7:=Lib.hid hq
      clear hmo hge hq hnb hw7 hc1 h0 HAL HGs HQ6
      unfold Tok.v at HW7
      go_wp2_with fail
      refine HM.out.mono ?_
      rintro e wa ⟨rfl,hla,hma⟩
      have hma':=hma.mono (Ts':=[101]) (B':=w.heap.size) (fun _ h=>h) (by omega)
      have HPCA:=Lib.hid (PCr.out.mt hma' (by decide) (by decide) (by decide) (by decide))
      have HPPA:=Lib.hid (PPr.out.mt hma' (by decide))
      have HWA:=Lib.hid (HW7.out _ hla)
      clear hla hma hma' PCr PPr LN HM HW7
      go_wp2_with fail
      refine HWA.out.mono ?_
      rintro e wb ⟨rfl,hlb,hmb⟩
      have hmb':=hmb.mono (Ts':=[101]) (B':=w.heap.size) (fun _ h=>h) (by omega)
      have HPCB:=Lib.hid (HPCA.out.mt hmb' (by decide) (by decide) (by decide) (by decide))
      have HPPB:=Lib.hid (HPPA.out.mt hmb' (by decide))
      have HLB:=Lib.hid hlb
      clear hlb hmb hmb' HPCA HPPA HWA
      have hq:=HQ7.out
      unfold endS at hq
      obtain⟨s6,hs6⟩:∃ s6,limS al s5=s6:=⟨_,rfl⟩
      rw[hs6] at hq
      have HQ8:=Lib.hid hq
      have HS6:=Lib.hid hs6
      clear hq hs6 HQ7
      have h6c:(∃ a,al[6]? = some a)∨al[6]? = none:=by
       cases al[6]? with
       | none=>exact .inr rfl
       | some a=>exact .inl ⟨a,rfl⟩
      rcases h6c with ⟨a,h6⟩ | h6
      case' inl =>
       have h6l:=(List.getElem?_eq_some_iff.1 h6).1
       have hs6:=HS6.out
       rw[lim_some h6] at hs6
       obtain⟨g6,cap6,hv6,hnc6,hcm6,hg6,c6⟩:=HPPB.out.o1.get (i:=6) (p:=a.1.2) (by simp [h6])
       simp only[List.length_map,Value.slice.injEq,true_and] at hv6 hnc6
       obtain⟨rfl,rfl⟩:=hv6
       have hd:(6:Int)<(al.length:Int):=by omega
       have hd2:¬ ((al.length:Int)<=6):=by omega
       have HFL:=Lib.hid (fail_ln HLB.out HNB.out a.1.2 90)
       have HNC:=Lib.hid (fail_nb HNB.out a.1.2 90 (by decide))
       unfold maxLen at hcm6
       rw[hs6] at HFL HNC
       clear h6 h6l hs6
       go_wp2_with fail
       refine HFL.out.mono ?_
       rintro e wc ⟨rfl,hlc,hmc⟩
       have hmc':=hmc.mono (Ts':=[101]) (B':=w.heap.size) (fun _ h=>h) (by omega)
       have HPCC:=Lib.hid (HPCB.out.mt hmc' (by decide) (by decide) (by decide) (by decide))
       have HOC:=Lib.hid (HPPB.out.mt hmc' (by decide)).o2
       have HHC:=Lib.hid (HPPB.out.mt hmc' (by decide)).o3
       have HLC:=Lib.hid hlc
       clear hlc hmc hmc' c6 hg6 hnc6 hcm6 hd hd2 HPCB HPPB HLB HFL HNB
      case' inr =>
       have h6l:=List.getElem?_eq_none_iff.1 h6
       have hs6:=HS6.out
       rw[lim_none h6] at hs6
       rw[hs6] at HLB HNB
       obtain⟨wc,rfl⟩:∃ wc:World,wc=wb:=⟨_,rfl⟩
       have hd:¬ ((6:Int)<(al.length:Int)):=by omega
       have hd2:(al.length:Int)<=6:=by omega
       have HNC:=HNB
       have HLC:=HLB
       have HPCC:=HPCB
       have HOC:=Lib.hid HPPB.out.o2
       have HHC:=Lib.hid HPPB.out.o3
       clear h6 h6l hs6 HLB HNB HPCB HPPB
      all_goals
       have hq:=HQ8.out
       obtain⟨s7,hs7⟩:∃ s7,overS al s6=s7:=⟨_,rfl⟩
       rw[hs7] at hq
       have HQ9:=Lib.hid hq
       have HS7:=Lib.hid hs7
       clear hq hs7 HQ8
       have hoc0:(∃ p,(overOf al)[0]? = some p)∨(overOf al)[0]? = none:=by
        cases (overOf al)[0]? with
        | none=>exact .inr rfl
        | some p=>exact .inl ⟨p,rfl⟩
       generalize hM:(overOf al).length=M at *
       rcases hoc0 with ⟨p,h7⟩ | h7
       case' inl =>
        have h7l:=(List.getElem?_eq_some_iff.1 h7).1
        rw[hM] at h7l
        have hs7:=HS7.out
        rw[over_some h7] at hs7
        obtain⟨g7,cap7,hv7,hnc7,hcm7,hg7,c7⟩:=HOC.out.get h7
        rw[hM] at hv7 hnc7
        simp only[Value.slice.injEq,true_and] at hv7
        obtain⟨rfl,rfl⟩:=hv7
        have hd3:(0:Int)<(M:Int):=by omega
        have hd4:¬ ((M:Int)<=0):=by omega
        have hd5:¬ M=0:=by omega
        have HFL:=Lib.hid (fail_ln HLC.out HNC.out p 91)
        have HND:=Lib.hid (fail_nb HNC.out p 91 (by decide))
        unfold maxLen at hcm7
        rw[hs7] at HFL HND
        clear h7 hs7 hM
        go_wp2_with fail
        refine HFL.out.mono ?_
        rintro e wd ⟨rfl,hld,hmd⟩
        have hmd':=hmd.mono (Ts':=[101]) (B':=w.heap.size) (fun _ h=>h) (by omega)
        have HPCD:=Lib.hid (HPCC.out.mt hmd' (by decide) (by decide) (by decide) (by decide))
        have HHD:=Lib.hid (hmd'.ownsRow (show World.ownsRow _ _ _ _ _ _ _ from HHC.out) (by decide))
        have HLD:=Lib.hid hld
        clear hld hmd hmd' c7 hg7 hnc7 hcm7 hd3 hd4 hd5 HPCC HOC HHC HLC HFL HNC
       case' inr =>
        have h7l:M=0:=by
         have:=List.getElem?_eq_none_iff.1 h7
         omega
        have hs7:=HS7.out
        rw[over_none h7] at hs7
        rw[hs7] at HLC HNC
        obtain⟨wd,rfl⟩:∃ wd:World,wd=wc:=⟨_,rfl⟩
        subst h7l
        have HND:=HNC
        have HLD:=HLC
        have HPCD:=HPCC
        have HHD:=Lib.hid (show World.ownsRow _ _ _ _ _ _ _ from HHC.out)
        clear h7 hs7 hM HLC HNC HPCC HHC HOC
       all_goals
        have hq:=HQ9.out
        obtain⟨s8,hs8⟩:∃ s8,dupS ys ys.length 0 s7=s8:=⟨_,rfl⟩
        rw[hs8] at hq
        rw[HN.out] at hs8 hq
        obtain⟨s9,hs9⟩:∃ s9,lackS (qVars (qryOf (t0.x,t0.p) ys al).atoms) ys N 0 s8=s9:=⟨_,rfl⟩
        rw[hs9] at hq
        rw[qryOf_atoms] at hs9
        have hlim:(∃ c,s8=.ok c)->limP al=none:=by
         rintro ⟨c,hc⟩
         rw[hc] at hs8
         obtain⟨c',hc'⟩:=dupS_ok hs8
         have h1:=HS7.out
         rw[<-HS6.out,hc'] at h1
         exact over_ok h1
        have HQA:=Lib.hid hq
        have HS8:=Lib.hid hs8
        have HS9:=Lib.hid hs9
        have HLIM:=Lib.hid hlim
        clear hq hs8 hs9 hlim HQ9 HS6 HS7
        go_wp2_with fail
        go_loopw [14] (fun i wr=>∃ (k:Nat) (s:LS),k<=N/\i=.int .i64 k/\Hid (NB s)/\Hid (dupS ys (N - k) k s=s8)/\Hid (Ln wr b s vt)/\Hid (PC w wr w2.heap.size t0.x (.slice qa N qc) (.slice aa al.length ac) (ys.map (·.1)) (al.map convA))/\Hid (wr.ownsRow w.heap.size 3 1 (.slice ha N hc) (ys.map (·.2)).length ((ys.map (·.2)).map fun p=>.int .i64 p))) (fun i _=>N - (intOf i).toNat)
        case atStart=>exact⟨0,s7,Nat.zero_le _,rfl,HND,HS8,HLD,HPCD,HHD⟩
        case round =>
         obtain⟨k,s,hk,rfl,HNB,HDU,LN,PCr,HHr⟩:=hrel
         obtain⟨we,rfl⟩:∃ we:World,we=wr:=⟨_,rfl⟩
         have x1:=PCr.out.q.cell 1
         simp only[List.getElem?_toArray,List.getElem?_cons_zero,List.getElem?_cons_succ] at x1
         have hql:=PCr.out.q.lt
         have hwr:=PCr.out.below.size
         by_cases hlt:k<N
         ·obtain⟨h,hh⟩:∃ h,ys[k]? = some h:=⟨ys[k]'(by rw[HN.out];exact hlt),List.getElem?_eq_getElem (by rw[HN.out];exact hlt)⟩
          have hst:StrsAt we (.slice qa N qc) (ys.map (·.1)):=OwnS.strs PCr.out.head (by rw[List.length_map,HN.out];omega)
          obtain⟨gb,go,gcap,hv,_,_,hbl,hce⟩:=hst.get (i:=k) (s:=h.1) (by simp [hh])
          simp only[List.length_map,HN.out,Value.slice.injEq,true_and] at hv
          obtain⟨rfl,rfl⟩:=hv
          obtain⟨gp,pcap,hvp,hncp,hcmp,hgp,cp⟩:=IntsO.get (show IntsO w.heap.size we (.slice ha N hc) (ys.map (·.2)) from HHr.out) (i:=k) (p:=h.2) (by simp [hh])
          simp only[List.length_map,HN.out,Value.slice.injEq,true_and] at hvp hncp
          obtain⟨rfl,rfl⟩:=hvp
          unfold maxLen at hcmp
          have hdu:=HDU.out
          rw[show N - k=(N - (k+1))+1 by omega,dupS_step ys _ k hh] at hdu
          have HDV:=Lib.hid hdu
          have HST:=Lib.hid hst
          have hd:decide ((k:Int)<0)=false:=by simp
          have hd2:decide ((N:Int)<=(k:Int))=false:=by simp;omega
          clear hh hst hdu HDU
          by_cases hix:idxI (ys.map (·.1)) h.1<(k:Int)
          ·have hix2:¬ ((k:Int)<=idxI (ys.map (·.1)) h.1):=by omega
           have HDW:=Lib.hid (show dupS ys (N - (k+1)) (k+1) (failS h.2 92 s)=s8 by have:=HDV.out;rwa [if_pos hix] at this)
           have HFL:=Lib.hid (fun n=>fail_ln (LN.out.keep (bdrewN (Below.refl _ _) n)) HNB.out h.2 92)
           have HNB2:=Lib.hid (fail_nb HNB.out h.2 92 (by decide))
           clear HDV
           go_wp2_with fail
           go_quiet ((go_at_call 54;exact Calls.quiet_of_same ((refAt_any _ _ (ys.map (·.1)) h.1 (HST.out.keep (bdrewN (Below.refl _ _) _))).mono fun _ _ h=>⟨h.1,h.2.symm⟩)))
           go_wp2_with fail
           refine (HFL.out _).mono ?_
           rintro e wf ⟨rfl,hlf,hmf⟩
           have hmf':=hmf.mono (Ts':=[101]) (B':=w.heap.size) (fun _ h=>h) (by omega)
           have HPCF:=Lib.hid ((PCr.out.keep (bdrewN (Below.refl _ _) _)).mt hmf' (by decide) (by decide) (by decide) (by decide))
           have HHF:=Lib.hid (hmf'.ownsRow ((MT.ofBelow (B:=0) (Ts:=[]) (bdrewN (Below.refl _ we) _)).ownsRow HHr.out (by simp)) (by decide))
           have HLF:=Lib.hid hlf
           clear hlf hmf hmf' HFL
           go_wp2_with fail
           go_roundw
           case rel=>exact⟨k+1,_,by omega,by go_num,HNB2,HDW,HLF,HPCF,HHF⟩
           case measure=>simp [intOf];omega
          ·have hix2:(k:Int)<=idxI (ys.map (·.1)) h.1:=by omega
           have HDW:=Lib.hid (show dupS ys (N - (k+1)) (k+1) s=s8 by have:=HDV.out;rwa [if_neg hix] at this)
           clear HDV
           go_wp2_with fail
           go_quiet ((go_at_call 54;exact Calls.quiet_of_same ((refAt_any _ _ (ys.map (·.1)) h.1 (HST.out.keep (bdrewN (Below.refl _ _) _))).mono fun _ _ h=>⟨h.1,h.2.symm⟩)))
           go_wp2_with fail
           go_roundw
           case rel=>exact⟨k+1,s,by omega,by go_num,HNB,HDW,Lib.hid (LN.out.keep (bdrewN (Below.refl _ _) _)),Lib.hid (PCr.out.keep (bdrewN (Below.refl _ _) _)),Lib.hid ((MT.ofBelow (B:=0) (Ts:=[]) (bdrewN (Below.refl _ we) _)).ownsRow HHr.out (by simp))⟩
           case measure=>simp [intOf];omega
         ·obtain rfl:k=N:=by omega
          have hdu:=HDU.out
          rw[Nat.sub_self] at hdu
          simp only[dupS] at hdu
          subst hdu
          clear HDU
          obtain⟨wz,rfl⟩:∃ wz:World,wz=we:=⟨_,rfl⟩
          have HNB0:=HNB
          have HLN0:=LN
          have HPC0:=PCr
          have HHH0:=HHr
          clear HNB LN PCr HHr
          go_wp2_with fail
          clear x1 hql hwr
          go_loopw [15] (fun i wr=>∃ (k2:Nat) (s2:LS),k2<=k/\i=.int .i64 k2/\Hid (NB s2)/\Hid (lackS (qVars (al.map convA)) ys (k - k2) k2 s2=s9)/\Hid ((∃ c,s2=.ok c)->limP al=none)/\Hid (Ln wr b s2 vt)/\Hid (PC w wr w2.heap.size t0.x (.slice qa k qc) (.slice aa al.length ac) (ys.map (·.1)) (al.map convA))/\Hid (wr.ownsRow w.heap.size 3 1 (.slice ha k hc) (ys.map (·.2)).length ((ys.map (·.2)).map fun p=>.int .i64 p))) (fun i _=>k - (intOf i).toNat)
          case atStart=>exact⟨0,s,Nat.zero_le _,rfl,HNB0,HS9,HLIM,HLN0,HPC0,HHH0⟩
          case round =>
           obtain⟨k2,s2,hk2,rfl,HNB,HLA,HLM,LN,PCr,HHr⟩:=hrel
           obtain⟨we,rfl⟩:∃ we:World,we=wr:=⟨_,rfl⟩
           have x0:=PCr.out.q.cell 0
           have x1:=PCr.out.q.cell 1
           have x2:=PCr.out.q.cell 2
           simp only[List.getElem?_toArray,List.getElem?_cons_zero,List.getElem?_cons_succ] at x0 x1 x2
           have hql:=PCr.out.q.lt
           have hwr:=PCr.out.below.size
           have r0:=PCr.out.r.cell 0
           have r1:=PCr.out.r.cell 1
           have r2:=PCr.out.r.cell 2
           have y0:=PCr.out.r.frozen 0
           have y1:=PCr.out.r.frozen 1
           have y2:=PCr.out.r.frozen 2
           have hrl:=PCr.out.r.lt
           simp only[List.getElem?_toArray,List.getElem?_cons_zero,List.getElem?_cons_succ] at r0 r1 r2
           have hbne:b≠w.heap.size:=by omega
           cases s2 with
           | bad pa ee =>
             have hla:=HLA.out
             rw[lackS_bad] at hla
             have hq:=HQA.out
             rw[<-hla] at hq
             simp only[outS] at hq
             obtain⟨tb,ib,hld⟩:=ln_bad LN.out
             have e2:=hld.blk.cell 2
             have e3:=hld.blk.cell 3
             simp only[List.getElem?_toArray,List.getElem?_cons_zero,List.getElem?_cons_succ] at e2 e3
             have hel:=hld.blk.lt
             have hen:(ee == 0)=false:=by simpa using HNB.out _ _ rfl
             have hen2:(ee != 0)=true:=by simpa using HNB.out _ _ rfl
             have HBEL:=Lib.hid PCr.out.below
             have hmk:=((((Mod.refl (fun k=>k=w.heap.size) we).setCell (p:=⟨w.heap.size,0,none⟩) (fun _=>rfl) (.string ⟨#[]⟩)).setCell (p:=⟨w.heap.size,1,none⟩) (fun _=>rfl) (.slice none 0 0)).setCell (p:=⟨w.heap.size,2,none⟩) (fun _=>rfl) (.slice none 0 0)).drew
             have hS2:=hmk.cellOf e2 hbne
             have hS3:=hmk.cellOf e3 hbne
             have hrb0:=((PCr.out.r.set_ 0 (.string ⟨#[]⟩)).set_ 1 (.slice none 0 0)).set_ 2 (.slice none 0 0)
             have hrb1:Blk (((we.setCell ⟨w.heap.size,0,none⟩ (.string ⟨#[]⟩)).setCell ⟨w.heap.size,1,none⟩ (.slice none 0 0)).setCell ⟨w.heap.size,2,none⟩ (.slice none 0 0)) w.heap.size 29 #[.string ⟨#[]⟩,.slice none 0 0,.slice none 0 0]:=by simpa using hrb0
             have hrb:=hrb1.drew
             have HRB:=Lib.hid hrb
             have HB3:=Lib.hid (bdrew (((HBEL.out.setCell (p:=⟨w.heap.size,0,none⟩) (Nat.le_refl _) (.string ⟨#[]⟩)).setCell (p:=⟨w.heap.size,1,none⟩) (Nat.le_refl _) (.slice none 0 0)).setCell (p:=⟨w.heap.size,2,none⟩) (Nat.le_refl _) (.slice none 0 0)))
             clear hmk hrb hrb0 hrb1
             subst hq
             clear hla hld HLA HLM HNB LN PCr HHr HQA HLIM
             have hkk:k2<k∨k2=k:=by omega
             rcases hkk with hlt | rfl
             all_goals
              go_wp2_with fail
              go_region_held3 (fun w'=>w'.cell? ⟨b,2,none⟩=some (.int .i64 pa)/\w'.cell? ⟨b,3,none⟩=some (.int .i64 ee)) (first | go_keep | (exact⟨hS2,hS3⟩)) (fail)
              all_goals
               rename_i KK hKK hHeld
               clear hHeld
               simp only[Exit.then]
               refine hKK _ _ (wp_ret ?_)
               show bodyPost Tryz.prog Tryz.f57 (QPost w (.bad pa ee)) Exit.ret _ _
               exact refParse_ret HRB.out rfl rfl rfl ⟨rfl,HB3.out⟩
           | ok c =>
             have hla:=HLA.out
             obtain⟨tb,ib,pb,hld,_⟩:=ln_ok LN.out
             have e3:=hld.blk.cell 3
             simp only[List.getElem?_toArray,List.getElem?_cons_zero,List.getElem?_cons_succ] at e3
             have hel:=hld.blk.lt
             clear hld
             by_cases hlt:k2<k
             ·obtain⟨h,hh⟩:∃ h,ys[k2]? = some h:=⟨ys[k2]'(by rw[HN.out];exact hlt),List.getElem?_eq_getElem (by rw[HN.out];exact hlt)⟩
              have hst:StrsAt we (.slice qa k qc) (ys.map (·.1)):=OwnS.strs PCr.out.head (by rw[List.length_map,HN.out];omega)
              obtain⟨gb,go,gcap,hv,_,_,hbl,hce⟩:=hst.get (i:=k2) (s:=h.1) (by simp [hh])
              simp only[List.length_map,HN.out,Value.slice.injEq,true_and] at hv
              obtain⟨rfl,rfl⟩:=hv
              obtain⟨gp,pcap,hvp,hncp,hcmp,hgp,cp⟩:=IntsO.get (show IntsO w.heap.size we (.slice ha k hc) (ys.map (·.2)) from HHr.out) (i:=k2) (p:=h.2) (by simp [hh])
              simp only[List.length_map,HN.out,Value.slice.injEq,true_and] at hvp hncp
              obtain⟨rfl,rfl⟩:=hvp
              unfold maxLen at hcmp
              rw[show k - k2=(k - (k2+1))+1 by omega,lackS_step _ ys _ k2 hh] at hla
              obtain⟨hl6,ht5⟩:=lim_small (HLM.out ⟨c,rfl⟩)
              have hts:=tsum_small ht5
              obtain⟨rows,hro,hra⟩:=PCr.out.atoms
              have hAt:AtomsAt we (.slice aa al.length ac) (al.map convA):=atomsRow hro rfl hra (by rw[List.length_map];omega) (by
               intro a ha
               obtain⟨z,hz,rfl⟩:=List.mem_map.1 ha
               have:=ht5 z hz
               simp only[convA,List.length_map]
               omega)
              have hV:=refVars_any we.drew ⟨t0.x.toArray⟩ (.slice (some ⟨gb,go,none⟩) k qc) (.slice aa al.length ac) (al.map convA) (hAt.keep (bdrew (Below.refl _ _))) (by rw[List.length_map];omega) (by omega)
              have hVL:(qVars (al.map convA)).length<=8796093022208:=by
               rw[<-allTs_vars]
               have:=atomVars_len (allTs (al.map convA))
               rw[allTs_len] at this
               omega
              obtain⟨V,hVV⟩:∃ V,qVars (al.map convA)=V:=⟨_,rfl⟩
              rw[hVV] at hV hVL hla
              have HVV:=Lib.hid hVV
              clear hVV
              obtain⟨bq,hbq⟩:∃ bq,decide (h.1∈V)=bq:=⟨_,rfl⟩
              have hin:∀ (W:World) (v:Value),StrsAt W v V->Calls Tryz.prog 116 #[v,.string ⟨h.1.toArray⟩] W fun e w'=>e=.returned (.bool bq)/\W=w':=fun W v hst=>by
               have:=refIn_any W v V h.1 hst
               rwa [hbq] at this
              have HV:=Lib.hid hV
              have HVL:=Lib.hid hVL
              have HIN:=Lib.hid hin
              have HLB:=Lib.hid hla
              have HBQ:=Lib.hid hbq
              have hd:decide ((k2:Int)<0)=false:=by simp
              have hd2:decide ((k:Int)<=(k2:Int))=false:=by simp;omega
              clear hh hst hts hro hra hAt hV hVL hin hla hbq hl6 ht5 HLA
              go_wp2_with fail
              go_region_held3 (fun w'=>w'.cell? ⟨w2.heap.size,0,none⟩=some (.string ⟨t0.x.toArray⟩)/\w'.cell? ⟨w2.heap.size,1,none⟩=some (.slice (some ⟨gb,go,none⟩) k qc)/\w'.cell? ⟨w2.heap.size,2,none⟩=some (.slice aa al.length ac)/\w'.cell? ⟨gb,go+k2,none⟩=some (.string ⟨h.1.toArray⟩))
               (first | go_keep | (exact⟨(hb6.cell hql).trans x0,(hb6.cell hql).trans x1,(hb6.cell hql).trans x2,(hb6.cell hbl).trans hce⟩))
               (first | (go_at_call 117;refine HV.out.mono ?_;rintro e w6 ⟨v6,rfl,hown6,hb6⟩) | (go_at_call 116;refine (HIN.out _ _ (hown6.strs HVL.out)).mono ?_;rintro e w7 ⟨rfl,rfl⟩))
              all_goals
               have bk6:Below we.heap.size we w6:=(bdrew (Below.refl _ _)).trans hb6
               have cp6:=(bk6.cell (p:=⟨gp,k2,none⟩) hgp).trans cp
               have HPC6:=Lib.hid (PCr.out.keep bk6)
               have HLN6:=Lib.hid (LN.out.keep bk6)
               have HHH6:=Lib.hid ((MT.ofBelow (B:=0) (Ts:=[]) bk6).ownsRow HHr.out (by simp))
               have hg6:gp<w6.heap.size:=by have:=bk6.size;omega
               have hw6:w.heap.size<=w6.heap.size:=by have:=bk6.size;omega
               clear hown6 hb6 bk6
               cases bq with
               | true =>
                 have HLC:=Lib.hid (show lackS (qVars (al.map convA)) ys (k - (k2+1)) (k2+1) (.ok c)=s9 by
                  rw[HVV.out]
                  have:=HLB.out
                  rwa [if_pos (of_decide_eq_true HBQ.out)] at this)
                 clear HLB
                 go_wp2_with fail
                 go_roundw
                 case rel=>exact⟨k2+1,.ok c,by omega,by go_num,HNB,HLC,HLM,HLN6,HPC6,HHH6⟩
                 case measure=>simp [intOf];omega
               | false =>
                 have HLC:=Lib.hid (show lackS (qVars (al.map convA)) ys (k - (k2+1)) (k2+1) (.bad h.2 93)=s9 by
                  rw[HVV.out]
                  have:=HLB.out
                  rwa [if_neg (of_decide_eq_false HBQ.out)] at this)
                 have HFL:=Lib.hid (fail_ln HLN6.out HNB.out h.2 93)
                 clear HLB
                 go_wp2_with fail
                 refine HFL.out.mono ?_
                 rintro e wf ⟨rfl,hlf,hmf⟩
                 have hmf':=hmf.mono (Ts':=[101]) (B':=w.heap.size) (fun _ h=>h) (by omega)
                 have HPCF:=Lib.hid (HPC6.out.mt hmf' (by decide) (by decide) (by decide) (by decide))
                 have HHF:=Lib.hid (hmf'.ownsRow HHH6.out (by decide))
                 have HLF:=Lib.hid hlf
                 clear hlf hmf hmf' HFL
                 go_wp2_with fail
                 go_roundw
                 case rel=>exact⟨k2+1,.bad h.2 93,by omega,by go_num,Lib.hid (fun a e h=>by injection h with _ h2;subst h2;decide),HLC,Lib.hid (by rintro ⟨c,hc⟩;cases hc),HLF,HPCF,HHF⟩
                 case measure=>simp [intOf];omega
             ·obtain rfl:k2=k:=by omega
              rw[Nat.sub_self] at hla
              simp only[lackS] at hla
              have hq:=HQA.out
              rw[<-hla] at hq
              simp only[outS] at hq
              subst hq
              obtain⟨rows,hro,hra⟩:=PCr.out.atoms
              have HRO:=Lib.hid hro
              have HRA:=Lib.hid hra
              clear hla hro hra HLA HLM HNB HQA HLIM HS9
              go_wp2_with (refine wpList_store_blk rfl 29 _ _ rfl w.heap.size 29 _ _ rfl rfl PCr.out.r (by kernel_rfl) rfl (by simp [Value.oneCell']) ?_)
              intro w6 hb6 hm6 hz6
              have m6:MT w.heap.size [29] we w6:=MT.ofMod hm6 PCr.out.r (by simp) (Nat.le_refl _)
              have HB6:=Lib.hid hb6
              have HPOST:Hid (QPost w (.ok (qryOf (t0.x,t0.p) ys al) []) (.returned (.tuple #[.agg #[.string ⟨t0.x.toArray⟩,.slice qa k2 qc,.slice aa al.length ac],.int .i64 0,.int .i64 0])) w6):=Lib.hid
               ⟨_,_,rfl,m6.ownsRow PCr.out.head (by decide),⟨rows,m6.ownsRow HRO.out (by decide),HRA.out.mono fun b a h=>h.mt m6 (by decide)⟩,PCr.out.below.trans (m6.below PCr.out.below.size)⟩
              clear hb6 hm6 hz6 m6
              go_wp2_with (exact refParse_ret HB6.out rfl rfl rfl HPOST.out)
  | true =>
    obtain⟨f,rfl⟩:∃ g,f=g+1:=⟨f - 1,by have:=(more_meas HGs.out hc1).1;omega⟩
    have hgl:=HL.out
    rw[gloop_go nameS f hc1] at hgl
    obtain⟨hme1,hme2,hme3⟩:=more_meas HGs.out hc1
    have hme4:meas (moreS ys.length s).2<=f:=by
     by_cases h0:ys=[]
     ·have:=hf0 h0;omega
     ·have:=hme3 (fun e=>h0 (List.eq_nil_of_length_eq_zero e));omega
    rw[hc1] at hmo
    unfold nameS at hgl
    have hwm:=want_meas 1 [] (moreS ys.length s).2
    generalize (moreS ys.length s).2=sa at hmo hgm hgl hme4 hwm
    have hgw:Good (wantS 1 [] sa).2:=want_good (by decide) hgm
    have HWA:=Lib.hid (fun W (h:Ln W b sa vt)=>want_ln h hgm 1 [])
    generalize wantS 1 [] sa=X at hgl hwm hgw HWA
    obtain⟨t,sb⟩:=X
    simp only at hgl hwm hgw HWA
    have HGW:=Lib.hid hgw
    have HM:=Lib.hid hmo
    have HGL:=Lib.hid hgl
    have hmb:meas sb<=f:=by omega
    clear hmo hgm hgl hgw hwm hme1 hme2 hme3 hme4 hc1 HL HGs
    unfold Tok.v at HWA
    go_wp2_with fail
    refine HM.out.mono ?_
    rintro e w4 ⟨rfl,hl4,hm4⟩
    have HWB:=Lib.hid (HWA.out w4 hl4)
    have HM4:=Lib.hid (hm4.mono (Ts':=[101]) (B':=w.heap.size) (fun _ h=>h) (by omega))
    clear hl4 hm4 HWA
    go_wp2_with fail
    refine HWB.out.mono ?_
    rintro e w5 ⟨rfl,hl5,hm5⟩
    have m5:=HM4.out.trans (hm5.mono (Ts':=[101]) (B':=w.heap.size) (fun _ h=>h) (by omega))
    have pc5:=PCr.out.mt m5 (by decide) (by decide) (by decide) (by decide)
    have pp5:=PPr.out.mt m5 (by decide)
    have x5:=pc5.q.cell 1
    simp only[List.getElem?_toArray,List.getElem?_cons_zero,List.getElem?_cons_succ] at x5
    have hq5:=pc5.q.lt
    have hh5:=pc5.head
    unfold OwnS at hh5
    simp only[List.length_map] at hh5
    have hw5:=pc5.below.size
    have HPC5:=Lib.hid pc5
    have HPP5:=Lib.hid pp5
    have HH5:=Lib.hid hh5
    have HL5:=Lib.hid hl5
    clear pc5 pp5 hh5 hl5 m5 hm5
    go_wp2_with (at_builtin;refine wpList_append_lies _ rfl (.tmp 32) (.tmp 35) 26 rfl w.heap.size 9 i0 (.string ⟨#[]⟩) 1 16 Tryz.underlying26 hi0 hz0 hz1 hz2 rfl (by decide) (.slice qa ys.length qc) ys.length _ rfl ((HH5.out.alloc _).alloc _) ⟨_,0,none⟩ 1 1 [.string ⟨t.x.toArray⟩] rfl rfl (World.news_of_block (blkNew1 _ _ _ _)) (by simp [Value.oneCell']) (by decide) ?c3 ?c5 ?c4 _ rfl ?_)
    case c3=>unfold maxLen;omega
    case c5=>omega
    case c4=>simp;omega
    intro g cap1 w6 hown6 hgrow6 hat6 hlt6
    have bka:Below w5.heap.size w5 ((w5.alloc (.cells #[.int .i64 t.k,.string ⟨t.x.toArray⟩,.int .i64 t.vk,.int .i64 t.vn,.string ⟨t.vt.toArray⟩,.int .i64 t.p] 105)).alloc (.cells #[.string ⟨t.x.toArray⟩] 9)):=balloc (balloc (Below.refl _ _) _) _
    have pca:=HPC5.out.keep bka
    have ppa:=HPP5.out.keep bka
    have lna:=HL5.out.keep bka
    have tka:=(Blk.new w5 105 #[.int .i64 t.k,.string ⟨t.x.toArray⟩,.int .i64 t.vk,.int .i64 t.vn,.string ⟨t.vt.toArray⟩,.int .i64 t.p]).alloc (.cells #[.string ⟨t.x.toArray⟩] 9)
    obtain⟨pc7,m7⟩:=pca.setHead (qh':=.slice (some ⟨g,0,none⟩) (ys.length+1) cap1) (hn':=ys.map (·.1)++[t.x]) hgrow6 (by unfold OwnS;simpa using hown6)
    have m6:MT w.heap.size [9] _ w6:=(MT.refl _).grown hgrow6 pca.head (by simp) (Nat.le_refl _)
    have q6:=pca.q.mt m6 (by decide)
    have x6:=q6.cell 1
    have y6:=q6.frozen 1
    have hq6:=q6.lt
    have tk6:=tka.mt m6 (by decide)
    have d6:=tk6.cell 5
    have hk6:=tk6.lt
    simp only[List.getElem?_toArray,List.getElem?_cons_zero,List.getElem?_cons_succ] at x6 d6
    have hne:w2.heap.size≠w5.heap.size:=by omega
    have pp7:=ppa.mt m7 (by decide)
    have ln7:=lna.mt m7 (by decide) (by decide)
    have ho7:=pp7.o1
    unfold IntsO at ho7
    simp only[List.length_map] at ho7
    have hw7:w.heap.size<=w6.heap.size:=by have:=pc7.below.size;simpa using this
    have HPC7:=Lib.hid pc7
    have HPP7:=Lib.hid pp7
    have HLN7:=Lib.hid ln7
    have HO7:=Lib.hid ho7
    clear bka pca ppa lna tka pc7 m7 m6 q6 tk6 pp7 ln7 ho7 hown6 hgrow6 hat6 hlt6
    go_wp2_with (at_builtin;refine wpList_append_lies _ rfl (.tmp 38) (.tmp 41) 130 rfl w.heap.size 3 ii (.int .i64 0) 1 8 Tryz.underlying130 hii hn0 hn1 hn2 rfl (by decide) (.slice ha ys.length hc) ys.length _ rfl (HO7.out.alloc _) ⟨_,0,none⟩ 1 1 [.int .i64 t.p] rfl rfl (World.news_of_block (blkNewS _ _ _ _ _)) (by simp [Value.oneCell']) (by decide) ?d3 ?d5 ?d4 _ rfl ?_)
    case d3=>unfold maxLen;omega
    case d5=>omega
    case d4=>simp;omega
    intro g2 cap2 w8 hown8 hgrow8 hat8 hlt8
    have bkb:Below (w6.setCell ⟨w2.heap.size,1,none⟩ (.slice (some ⟨g,0,none⟩) (ys.length+1) cap1)).heap.size (w6.setCell ⟨w2.heap.size,1,none⟩ (.slice (some ⟨g,0,none⟩) (ys.length+1) cap1)) ((w6.setCell ⟨w2.heap.size,1,none⟩ (.slice (some ⟨g,0,none⟩) (ys.length+1) cap1)).alloc (.cells #[.int .i64 t.p] 3)):=balloc (Below.refl _ _) _
    have ppb:=HPP7.out.keep bkb
    have m8:MT w.heap.size [3] _ w8:=(MT.refl _).grown hgrow8 ppb.o1 (by simp) (Nat.le_refl _)
    have HPC8:=Lib.hid ((HPC7.out.keep bkb).mt m8 (by decide) (by decide) (by decide) (by decide))
    have HLN8:=Lib.hid ((HLN7.out.keep bkb).mt m8 (by decide) (by decide))
    have HPP8:=Lib.hid (ppb.grow (p:=t.p) hgrow8 (by simpa using hown8) (by simpa using hat8))
    clear bkb ppb m8 hown8 hgrow8 hat8 hlt8
    go_wp2_with fail
    go_roundw
    case rel =>
     exact⟨sb,ys++[(t.x,t.p)],f,some ⟨g2,0,none⟩,some ⟨g,0,none⟩,cap2,cap1,by simp,by simp;omega,hmb,by simp,HGW,HGL,HLN8,Lib.hid (by simpa using HPC8.out),Lib.hid (by simpa using HPP8.out)⟩
    case measure=>simp;omega
end Go.Proofs.YtamjadghncnbcaaGreatDoor
