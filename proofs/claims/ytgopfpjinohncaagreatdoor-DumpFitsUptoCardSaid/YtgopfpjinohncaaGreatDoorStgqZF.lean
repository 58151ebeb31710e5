/- dump.Load at awake's two lines, walked (printed by mkstg.py). -/
import Derived.Test.YtgopfpjinohncaaGreatDoorSteZF
import Derived.Test.YtgopfpjinohncaaGreatDoorDl9nZF
set_option maxHeartbeats 8000000
set_option maxRecDepth 100000
set_option linter.unusedVariables false
namespace Go.Proofs.YtgopfpjinohncaaGreatDoor
open Go.Proofs.Tryz
open Go.RowKit
def BF (w:World) (e:Ending) (w':World):Prop:=∃ ra rc g cap xa xc qv,e=.returned (.tuple #[.slice ra 1 rc,.slice (some ⟨g,0,none⟩) 1 cap,qv,.int .i64 0,.int .i64 0])/\w'.cell? ⟨g,1,none⟩=some (.slice xa 1 xc)/\g<w'.heap.size/\1<=cap/\Below w.heap.size w w'
theorem EK:rC zD.data.toList=false:=by kernel_rfl
theorem EQ:rC zB.data.toList=false:=by kernel_rfl
theorem Et (w:World) (hg:d8 w) (lo g cap:Nat) (hcap:2<=cap) (hl:w.ownsRow lo 9 1 (.slice (some ⟨g,0,none⟩) 2 cap) 2 [.string zD,.string zB]) :
 Calls prog 18 #[.slice (some ⟨g,0,none⟩) 2 cap] w (BF w):=by
 have HG:=Fx hg
 have HL:=Fx hl
 clear hg hl
 go_enter func18,ntmps18
 go_wp2_with fail
 refine (AB w).mono ?_
 rintro e w1 ⟨bb,ss,mb,rfl,hB,hS,hM,lb,ls,lm,hb1⟩
 obtain⟨ld,hld⟩:∃ ld,w1.heap.size=ld:=⟨_,rfl⟩
 have b2:Below w1.heap.size w1 (w1.alloc (.cells #[.pointer (some ⟨bb,0,none⟩),.slice none 0 0] 86)):=ae Fy _
 have hL2:af (w1.alloc (.cells #[.pointer (some ⟨bb,0,none⟩),.slice none 0 0] 86)) ld 86 #[.pointer (some ⟨bb,0,none⟩),.slice none 0 0]:=hld ▸ af.new _ _ _
 have hB2:cP (w1.alloc (.cells #[.pointer (some ⟨bb,0,none⟩),.slice none 0 0] 86)) bb ss mb:=af.below hB b2 (af.lt hB)
 have hS2:=hS.keep b2
 have hM2:=hM.mod (aq.ofBelow (F:=fun _=>False) b2) (fun f=>f)
 have hb2:=dZ hb1 b2
 have ho2:=(aq.ofBelow (F:=fun _=>False) hb2).ownsRow HL.out (fun _ _ f=>f)
 clear hB hS hM hb1 b2
 go_wp2_with fail
 obtain⟨W2,hW2⟩:∃ W2,w1.alloc (.cells #[.pointer (some ⟨bb,0,none⟩),.slice none 0 0] 86)=W2:=⟨_,rfl⟩
 rw[hW2] at hL2 hB2 hS2 hM2 hb2 ho2 ⊢
 clear hW2 hld
 refine wp_loop_rounds 3 ?_
 rw[rounds_succ]
 have k0:=ho2.cellAt 0 (by simp)
 have kl:=World.block_lt_of_cell? _ _ k0
 simp only[List.getElem?_cons_zero] at k0 kl
 have HBL:=Fx (ph zD W2 (by decide) (HG.out.below hb2).g)
 rw[EK] at HBL
 have HL2:=Fx hL2
 have HB2:=Fx hB2
 have HS2:=Fx hS2
 have HM2:=Fx hM2
 have HD2:=Fx hb2
 have HO2:=Fx ho2
 clear hL2 hB2 hS2 hM2 hb2 ho2
 go_wp2_with fail
 refine HBL.out.mono ?_
 rintro e w3 ⟨rfl,hb⟩
 have hb3:=dZ HD2.out hb
 have HD3:=Fx hb3
 have HL3:=Fx (HL2.out.below hb HL2.out.lt)
 have HM3:=Fx (HM2.out.mod (aq.ofBelow (F:=fun _=>False) hb) (fun f=>f))
 have HS3:=Fx (HS2.out.keep hb)
 have HO3:=Fx ((aq.ofBelow (F:=fun _=>False) hb).ownsRow HO2.out (fun _ _ f=>f))
 have HLN:=Fx (AA w3 ld bb ss mb (HG.out.below hb3) HL3.out (af.below HB2.out hb (af.lt HB2.out)) HS3.out HM3.out)
 clear hb hb3 k0 kl HBL HL2 HB2 HS2 HM2 HD2 HO2
 go_wp2_with fail
 refine HLN.out.mono ?_
 rintro e w4 ⟨rfl,st,a1,m1,h1,tb,a2,m2,c1,hi,hE,hM4,hB4,hS4,hh1,hh2,hd4⟩
 have nl:¬ (ld=ss∨ld=mb):=by
  rintro (e | e)
  ·obtain⟨sv,q,_⟩:=HS3.out
   exact HL3.out.ne_ q (by decide) e
  ·exact HM3.out.ne HL3.out e.symm
 have HE4:=Fx hE.emp
 have HP4:=Fx hE.plo
 have HM4:=Fx hM4
 have HB4:=Fx hB4
 have HS4:=Fx hS4
 have HL4:=Fx (HL3.out.mod hd4 nl)
 have HO4:=Fx (hd4.ownsRow HO3.out (fun k hk e=>by
  obtain⟨cur,hcur⟩:=kU HO3.out hk
  rcases e with e | e
  ·obtain⟨sv,q,_⟩:=HS3.out
   exact hcur.ne_ q (by decide) e
  ·exact HM3.out.ne hcur e.symm))
 have hd:=HD3.out.trans (hd4.below (B:=w.heap.size) HD3.out.size (fun k e=>by rcases e with e | e<;>omega))
 have HD4:=Fx hd
 have LH:=Fx (show w.heap.size<=st/\hi<=st by have:=HD3.out.size;omega)
 have k1:=HO4.out.cellAt 1 (by simp)
 have kl:=World.block_lt_of_cell? _ _ k1
 simp only[List.getElem?_cons_zero,List.getElem?_cons_succ] at k1 kl
 have HBL:=Fx (ph zB w4 (by decide) (HG.out.below hd).g)
 rw[EQ] at HBL
 clear hE hM4 hB4 hS4 hh1 hh2 hd4 nl HLN HL3 HM3 HS3 HD3 HO3 hd
 go_wp2_with fail
 rw[rounds_succ]
 go_wp2_with fail
 refine HBL.out.mono ?_
 rintro e w5 ⟨rfl,hb⟩
 have hb5:=dZ HD4.out hb
 have HD5:=Fx hb5
 have HL5:=Fx (HL4.out.below hb HL4.out.lt)
 have HM5:=Fx (HM4.out.mod (aq.ofBelow (F:=fun _=>False) hb) (fun f=>f))
 have HS5:=Fx (HS4.out.keep hb)
 have HE5:=Fx (HE4.out.keep hb)
 have HB5:=Fx (show cP w5 bb ss mb from af.below HB4.out hb (af.lt HB4.out))
 have HLN:=Fx (BC w5 ld bb ss mb st a1 m1 h1 tb a2 m2 c1 (HG.out.below hb5) HL5.out HB5.out HS5.out HM5.out HE5.out)
 clear hb hb5 k1 kl HBL HL4 HB4 HS4 HM4 HD4 HO4 HE4
 go_wp2_with fail
 refine HLN.out.mono ?_
 rintro e w6 ⟨rfl,⟨ka,kc,hkc,hs6,hr6⟩,hd6⟩
 have hF:∀ {k:Nat} {t:TypeId} {cs:Array Value},af w5 k t cs->t≠326->t≠394->t≠397->t≠428->t≠377->af w6 k t cs:=fun q n1 n2 n3 n4 n5=>q.mod hd6 (by
  rintro (e | e | e | e | e | e)
  ·exact q.ne_ HE5.out.s n1 e
  ·exact q.ne_ HE5.out.a n2 e
  ·exact HE5.out.m.ne q e.symm
  ·exact q.ne_ HE5.out.h n3 e
  ·exact q.ne_ HE5.out.t n4 e
  ·exact q.ne_ HE5.out.c n5 e)
 have hmm:mb≠m1:=fun e=>by
  have q1:=HM5.out
  have q2:=HE5.out.m
  unfold bF at q1 q2
  rw[e,q2] at q1
  simp at q1
 have HB6:=Fx (show cP w6 bb ss mb from hF HB5.out (by decide) (by decide) (by decide) (by decide) (by decide))
 have HL6:=Fx (hF HL5.out (by decide) (by decide) (by decide) (by decide) (by decide))
 have HM6:=Fx (HM5.out.mod hd6 (by
  rintro (e | e | e | e | e | e)
  ·exact HM5.out.ne HE5.out.s e
  ·exact HM5.out.ne HE5.out.a e
  ·exact hmm e
  ·exact HM5.out.ne HE5.out.h e
  ·exact HM5.out.ne HE5.out.t e
  ·exact HM5.out.ne HE5.out.c e))
 have hpl:∀ k,(k=st∨k=a1∨k=m1∨k=h1∨k=tb∨k=c1)->st<=k:=fun k e=>by
  have q:=HP4.out
  rcases e with e | e | e | e | e | e<;>omega
 have HS6:=Fx (HS5.out.mod hd6 (by
  obtain⟨sv,q,_⟩:=HS5.out
  rintro (e | e | e | e | e | e)
  ·exact q.ne_ HE5.out.s (by decide) e
  ·exact q.ne_ HE5.out.a (by decide) e
  ·exact HE5.out.m.ne q e.symm
  ·exact q.ne_ HE5.out.h (by decide) e
  ·exact q.ne_ HE5.out.t (by decide) e
  ·exact q.ne_ HE5.out.c (by decide) e) (fun k q e=>by
   have q1:=hpl k e
   have q2:=LH.out
   have q3:=q.2
   omega))
 have HT6:=Fx hs6
 have HR6:=Fx hr6
 have HD6:=Fx (HD5.out.trans (hd6.below (B:=w.heap.size) HD5.out.size (fun k e=>by have:=hpl k e;have:=LH.out;omega)))
 have HKC:=Fx hkc
 clear hs6 hr6 hd6 hF hpl hmm HLN HL5 HB5 HS5 HM5 HE5 HP4 hkc
 go_wp2_with fail
 rw[rounds_succ]
 go_wp2_with fail
 obtain⟨SS,hSS⟩:∃ SS:World->Prop,SS=fun W=>af W ld 86 #[.pointer (some ⟨bb,0,none⟩),.slice none 0 0]:=⟨_,rfl⟩
 have HSC:Hid (∀ W,SS W->W.cell? ⟨ld,1,none⟩=some (.slice none 0 0)/\ld<W.heap.size):=Fx (fun W q=>by
  rw[hSS] at q
  have r0:=q
  exact⟨(r0.cell 1).trans rfl,r0.lt⟩)
 have HSI:Hid (∀ W,af W ld 86 #[.pointer (some ⟨bb,0,none⟩),.slice none 0 0]->SS W):=Fx (fun W q=>by rw[hSS];exact q)
 clear hSS
 have HSS:SS w6.drew:=HSI.out _ (HL6.out.drew)
 refine wp_region_held_drew (by kernel_rfl) HSS (fun _=>?_)
 refine Held.tk 0 37 HSS ?_
 refine Held.tk 2 39 HSS ?_
 refine Held.tk 4 41 HSS ?_
 refine Held.tk 5 42 HSS ?_
 refine Held.tk 6 43 HSS ?_
 refine Held.tk 7 44 HSS ?_
 refine Held.on 1 (fun K hK=>?_)
 go_simp
 refine (oJ w6.drew bb ss mb _ (af.drew HB6.out) (HS6.out.keep (ay Fy))).mono ?_
 rintro e w7 ⟨pa,pc,rfl,_,hb⟩
 have hb7:=dZ (ay (Below.refl _ w6)) hb
 simp only[List.length_cons,List.length_nil,Nat.zero_add]
 have HB7:=Fx hb7
 clear HSS
 have HSS:=HSI.out w7 (HL6.out.below hb7 HL6.out.lt)
 refine hK.out _ _ HSS ?_
 clear hK K hb hb7
 try simp only[FG]
 refine Held.on 3 (fun K hK=>?_)
 go_simp
 refine (CM w7 _ bb ss mb st a1 m1 h1 a2 m2 c1 1 false (.slice none 0 0) tu ka kc HKC.out (af.below HB6.out HB7.out (af.lt HB6.out)) (HS6.out.keep HB7.out) (HM6.out.mod (aq.ofBelow (F:=fun _=>False) HB7.out) (fun f=>f)) (HT6.out.below HB7.out HT6.out.lt) (HR6.out.keep HB7.out)).mono ?_
 rintro e w8 ⟨tg,tc,xa,xc,rfl,hcell,htl,htc,hb⟩
 have hb8:=dZ HB7.out hb
 have HC8:=Fx (And.intro hcell (And.intro htl htc))
 have HB8:=Fx hb8
 clear HSS
 have HSS:=HSI.out w8 (HL6.out.below hb8 HL6.out.lt)
 refine hK.out _ _ HSS ?_
 clear hK K hb hb8 hcell htl htc
 try simp only[FG]
 refine Held.tk 8 2 HSS ?_
 refine Held.tk 9 3 HSS ?_
 refine Held.tk 10 4 HSS ?_
 refine Held.tk 11 5 HSS ?_
 refine Held.tk 12 6 HSS ?_
 refine wpAnyH_done (by kernel_rfl) ?_ _
 clear HSS HSC HSI
 go_wp2_with fail
 refine bodyPost_ret (v:=.tuple #[.slice pa 1 pc,.slice (some ⟨tg,0,none⟩) 1 tc,.slice none 0 0,.int .i64 0,.int .i64 0]) (by simp [results,results18,go_sem, *]) rfl ?_
 exact⟨pa,pc,tg,tc,xa,xc,_,rfl,HC8.out.1,HC8.out.2.1,HC8.out.2.2,HD6.out.trans (HB8.out.mono HD6.out.size)⟩
theorem jS {w:World} {g n size:Nat} {e:TypeId} {cs:List Value} (h:af w g e cs.toArray) (hl:cs.length=n * size) (hn:n<=maxLen) (h0:0<n):w.ownsRow 0 e size (.slice (some ⟨g,0,none⟩) n n) n cs :=
 ⟨hl,.inr ⟨g,n,cs.toArray,rfl,Fz,h,FA,hn,by simpa using hl,by rw[<-hl];simp⟩⟩
def sg:List aU:=[⟨[80],[]⟩]
def sF:List eC:=[⟨[80],[[]]⟩]
theorem DL:hO sg sF []=0:=by kernel_rfl
theorem Eu:fV sg sF []=[zD.data.toList,zB.data.toList]:=by kernel_rfl
theorem Cv (w:World) (hg:d8 w):Calls prog 14 #[] w fun e w'=>e=.returned (.bool true)/\Below w.heap.size w w':=by
 obtain⟨W,hW⟩:∃ W,((w.alloc (.cells #[.string ⟨#[80]⟩,.slice none 0 0] 57)).alloc (.cells #[.slice none 0 0] 59)).alloc (.cells #[.string ⟨#[80]⟩,.slice (some ⟨w.heap.size+1,0,none⟩) 1 1] 47)=W:=⟨_,rfl⟩
 have hb:Below w.heap.size w W:=by rw[<-hW];exact ae (ae (ae Fy _) _) _
 have q0:af W w.heap.size 57 #[.string ⟨#[80]⟩,.slice none 0 0]:=by rw[<-hW];exact ((af.new _ _ _).alloc _).alloc _
 have q1:af W (w.heap.size+1) 59 #[.slice none 0 0]:=by
  have:=(af.new (w.alloc (.cells #[.string ⟨#[80]⟩,.slice none 0 0] 57)) 59 #[.slice none 0 0]).alloc (.cells #[.string ⟨#[80]⟩,.slice (some ⟨w.heap.size+1,0,none⟩) 1 1] 47)
  rw[World.size_alloc] at this
  rw[<-hW]
  exact this
 have q2:af W (w.heap.size+1+1) 47 #[.string ⟨#[80]⟩,.slice (some ⟨w.heap.size+1,0,none⟩) 1 1]:=by
  have:=af.new ((w.alloc (.cells #[.string ⟨#[80]⟩,.slice none 0 0] 57)).alloc (.cells #[.slice none 0 0] 59)) 47 #[.string ⟨#[80]⟩,.slice (some ⟨w.heap.size+1,0,none⟩) 1 1]
  rw[World.size_alloc,World.size_alloc] at this
  rw[<-hW]
  exact this
 have hR:bj W (.slice (some ⟨w.heap.size,0,none⟩) 1 1) sg:=⟨[[.string ⟨#[80]⟩,.slice none 0 0]],aj.ofOwn (jS q0 rfl (by unfold maxLen;omega) (by omega)) rfl (by simp) (by simp),⟨⟨.slice none 0 0,rfl,dG _ _ _ _ (Fz),by simp⟩,trivial⟩⟩
 have hT:du W (.slice (some ⟨w.heap.size+1+1,0,none⟩) 1 1) sF:=⟨[[.string ⟨#[80]⟩,.slice (some ⟨w.heap.size+1,0,none⟩) 1 1]],aj.ofOwn (jS q2 rfl (by unfold maxLen;omega) (by omega)) rfl (by simp) (by simp),⟨⟨_,rfl,[[.slice none 0 0]],aj.ofOwn (jS q1 rfl (by unfold maxLen;omega) (by omega)) rfl (by simp) (by simp),⟨⟨.slice none 0 0,rfl,dG _ _ _ _ (Fz),by simp⟩,trivial⟩⟩,trivial⟩⟩
 have hD:=nN W _ _ _ sg sF [] hR hT ⟨[],dG W none 0 3 (Fz),trivial⟩ (by simp [AD,sg]) (by simp [sF,gk]) (by simp) (by decide) (by decide) (by decide) (hg.below hb)
 rw[if_pos DL,Eu,DL] at hD
 have HD:=Fx hD
 have HG:=Fx hg
 have HB:=Fx hb
 clear q0 q1 q2 hR hT hD hg
 go_enter func14,ntmps14
 go_wp2_with fail
 refine HD.out.mono ?_
 rintro e w1 ⟨v,rfl,hown,hb1⟩
 have hb2:=dZ hb hb1
 have ho:w1.ownsRow W.heap.size 9 1 v 2 [.string zD,.string zB]:=hown
 obtain⟨g,cap,hv,hcap⟩:∃ g cap,v=.slice (some ⟨g,0,none⟩) 2 cap/\2<=cap:=by
  rcases ho.2 with ⟨_,e⟩ | ⟨g,cap,cur,rfl,_,_,q,_⟩
  ·cases e
  ·exact⟨g,cap,rfl,q⟩
 subst hv
 have k0:=ho.cellAt 0 (by simp)
 have k1:=ho.cellAt 1 (by simp)
 have kl:=World.block_lt_of_cell? _ _ k0
 simp only[List.getElem?_cons_zero,List.getElem?_cons_succ] at k0 k1 kl
 have HLD:=Fx (Et w1 (HG.out.below hb2) W.heap.size g cap hcap ho)
 have HB2:=Fx hb2
 unfold zD at k0
 unfold zB at k1
 clear hown hb1 hb2 ho hb hW HD
 go_wp2_with fail
 refine HLD.out.mono ?_
 rintro e w2 ⟨ra,rc,tg,tc,xa,xc,qv,rfl,c1,tl,htc,hb3⟩
 have HB3:=Fx (dZ HB2.out hb3)
 clear hb3 k0 k1 kl HLD HB2
 go_wp2_with fail
 go_ret
 exact⟨rfl,HB3.out⟩
