/- store.Store.link of a row into an empty store, walked (printed by mkst8.py). -/
import Derived.Test.YtgopfpjinohncaaGreatDoorSt4ZF
import Derived.Test.YtgopfpjinohncaaGreatDoorSt6ZF
set_option maxHeartbeats 8000000
set_option maxRecDepth 100000
set_option linter.unusedVariables false
namespace Go.Proofs.YtgopfpjinohncaaGreatDoor
open Go.Proofs.Tryz
open Go.RowKit
theorem aq.undrew {F:Nat->Prop} {w w':World} (h:aq F w.drew w'):aq F w w':=⟨h.os,h.tape,h.output,h.size,h.block⟩
theorem kU {w:World} {B n size:Nat} {e:TypeId} {v:Value} {xs:List Value} (h:w.ownsRow B e size v n xs) {k:Nat} (hk:v.ownBlock=some k):∃ cur,af w k e cur:=by
 rcases h.2 with ⟨rfl,_⟩ | ⟨g,cap,cur,rfl,_,hg,_⟩
 ·simp [Value.ownBlock] at hk
 ·simp [Value.ownBlock] at hk
  subst hk
  exact⟨cur,hg⟩
def bC (B:Nat) (w:World) (a1 m1 c1:Nat) (r:Value):Prop:=∃ g gc hl hc ge ec,1<=gc/\1<=hc/\1<=ec/\af w a1 394 #[.int .i64 512,.int .i64 1073741824,.slice (some ⟨g,0,none⟩) 1 gc,.slice none 0 0,.int .i64 1] /\
 w.ownsRow B 418 3 (.slice (some ⟨g,0,none⟩) 1 gc) 1 [.int .i64 1,.bool true,r]/\bF w m1 #[{ key:=.int .i64 0,val:=.agg #[.int .i64 0,.int .i64 1],born:=0 }] 1/\af w c1 377 #[.int .i64 512,.slice (some ⟨hl,0,none⟩) 1 hc,.int .i64 513,.slice (some ⟨ge,0,none⟩) 1 ec] /\
 w.ownsRow B 371 3 (.slice (some ⟨hl,0,none⟩) 1 hc) 1 [.int .i64 1,.int .i64 (-1),.int .i64 (-1)]/\w.ownsRow B 369 3 (.slice (some ⟨ge,0,none⟩) 1 ec) 1 [.int .i64 0,.int .i64 0,.int .i64 1]
theorem bC.mod {F:Nat->Prop} {B:Nat} {w w':World} {a1 m1 c1:Nat} {r:Value} (h:bC B w a1 m1 c1 r) (hm:aq F w w') (f1:¬ F a1) (f2:¬ F m1) (f3:¬ F c1) (f4:∀ k,F k->k<B∨w.heap.size<=k):bC B w' a1 m1 c1 r:=by
 obtain⟨g,gc,hl,hc,ge,ec,q1,q2,q3,q4,q5,q6,q7,q8,q9⟩:=h
 have hf:∀ (e:TypeId) (k c:Nat) (xs:List Value),w.ownsRow B e 3 (.slice (some ⟨k,0,none⟩) 1 c) 1 xs->w'.ownsRow B e 3 (.slice (some ⟨k,0,none⟩) 1 c) 1 xs:=fun e k c xs q=>hm.ownsRow q fun j hj fj=>by
  have:=q.lt j hj
  rcases f4 j fj with z | z<;>omega
 exact⟨g,gc,hl,hc,ge,ec,q1,q2,q3,q4.mod hm f1,hf _ _ _ _ q5,q6.mod hm f2,q7.mod hm f3,hf _ _ _ _ q8,hf _ _ _ _ q9⟩
theorem bC.keep {B:Nat} {w w':World} {a1 m1 c1:Nat} {r:Value} (h:bC B w a1 m1 c1 r) (hb:Below w.heap.size w w'):bC B w' a1 m1 c1 r :=
 h.mod (aq.ofBelow (F:=fun _=>False) hb) (fun f=>f) (fun f=>f) (fun f=>f) (fun _ f=>f.elim)
theorem ET (w:World) (st a1 m1 h1 tb a2 m2 c1 ah:Nat) (mk:Bool) (u:Value) (va:Option Addr) (vc:Nat) (hvc:vc<=maxLen) (hs:af w st 326 #[.int .i64 0,.int .i64 512,.int .i64 1,.slice none 0 0,.pointer (some ⟨a1,0,none⟩),.map (some m1),.pointer (some ⟨h1,0,none⟩),.slice none 0 0,.pointer (some ⟨a2,0,none⟩),.map (some m2),.pointer (some ⟨c1,0,none⟩),.bool mk,u]) (ha:af w a1 394 #[.int .i64 512,.int .i64 1073741824,.slice none 0 0,.slice none 0 0,.int .i64 0]) (hm:bF w m1 #[] 0)
 (hh:af w h1 397 #[.int .i64 512,.int .i64 0,.int .i64 0,.int .i64 1,.slice (some ⟨tb,0,none⟩) 8 8]) (ht:af w tb 428 fM.toArray) (hc:af w c1 377 #[.int .i64 512,.slice none 0 0,.int .i64 513,.slice none 0 0]) (hah:af w ah 3 #[.int .i64 (-1)]) :
 Calls prog 277 #[.pointer (some ⟨st,0,none⟩),.slice va 0 vc,.slice (some ⟨ah,0,none⟩) 1 1] w fun e w'=>e=.returned (.int .i64 0)/\bC w.heap.size w' a1 m1 c1 (.slice va 0 vc)/\aq (fun k=>k=a1∨k=m1∨k=h1∨k=tb∨k=c1) w w':=by
 have HT0:=Fx (EP w a1 va 0 vc ha)
 have nsa:st≠a1:=hs.ne_ ha (by decide)
 have nma:m1≠a1:=hm.ne ha
 have nmh:m1≠h1:=hm.ne hh
 have nmt:m1≠tb:=hm.ne ht
 have nms:m1≠st:=hm.ne hs
 have nmc:m1≠c1:=hm.ne hc
 have nmk:m1≠ah:=hm.ne hah
 have nha:h1≠a1:=hh.ne_ ha (by decide)
 have nta:tb≠a1:=ht.ne_ ha (by decide)
 have nca:c1≠a1:=hc.ne_ ha (by decide)
 have nka:ah≠a1:=hah.ne_ ha (by decide)
 have nsh:st≠h1:=hs.ne_ hh (by decide)
 have nst:st≠tb:=hs.ne_ ht (by decide)
 have nch:c1≠h1:=hc.ne_ hh (by decide)
 have nct:c1≠tb:=hc.ne_ ht (by decide)
 have nkh:ah≠h1:=hah.ne_ hh (by decide)
 have nkt:ah≠tb:=hah.ne_ ht (by decide)
 have nkc:ah≠c1:=hah.ne_ hc (by decide)
 have nsc:st≠c1:=hs.ne_ hc (by decide)
 have NE:=Fx (And.intro nsa (And.intro nma (And.intro nmh (And.intro nmt (And.intro nms (And.intro nmc (And.intro nmk (And.intro nha (And.intro nta (And.intro nca (And.intro nka (And.intro nsh (And.intro nst (And.intro nch (And.intro nct (And.intro nkh (And.intro nkt (And.intro nkc nsc))))))))))))))))))
 clear nsa nma nmh nmt nms nmc nmk nha nta nca nka nsh nst nch nct nkh nkt nkc nsc
 have HS:=Fx hs
 have HMp:=Fx hm
 have HH:=Fx hh
 have HTb:=Fx ht
 have HC:=Fx hc
 have HK:=Fx hah
 have x4:=hs.cell 4
 have xl:=hs.lt
 simp only[FF] at x4
 clear hs ha hm hh ht hc hah
 go_enter func277,ntmps277
 go_wp2_with fail
 refine HT0.out.mono ?_
 rintro e w1 ⟨rfl,g,gc,hgc,hA,hSl,hM⟩
 obtain⟨nsa,nma,nmh,nmt,nms,nmc,nmk,nha,nta,nca,nka,nsh,nst,nch,nct,nkh,nkt,nkc,nsc⟩:=NE.out
 have b1:Below w1.heap.size w1 (w1.alloc (.cells #[.int .i64 0,.int .i64 1] 381)):=ae Fy _
 have HS1:=Fx ((HS.out.mod hM nsa).below b1 (HS.out.mod hM nsa).lt)
 have HM1:=Fx ((HMp.out.mod hM nma).mod (aq.ofBelow (F:=fun _=>False) b1) (fun f=>f))
 have HH1:=Fx ((HH.out.mod hM nha).below b1 (HH.out.mod hM nha).lt)
 have HT1:=Fx ((HTb.out.mod hM nta).below b1 (HTb.out.mod hM nta).lt)
 have HC1:=Fx ((HC.out.mod hM nca).below b1 (HC.out.mod hM nca).lt)
 have HK1:=Fx ((HK.out.mod hM nka).below b1 (HK.out.mod hM nka).lt)
 have HA1:=Fx (hA.below b1 hA.lt)
 have HO1:=Fx ((aq.ofBelow (F:=fun _=>False) b1).ownsRow hSl (fun _ _ f=>f))
 have HD1:=Fx ((aq.mono hM (G:=fun k=>k=a1∨k=m1∨k=h1∨k=tb∨k=c1) (fun _ _ q=>.inl q)).trans (aq.ofBelow (F:=fun _=>False) b1) (fun _ _ f=>f.elim))
 have HX1:=Fx (af.new w1 381 #[.int .i64 0,.int .i64 1])
 have HZ:=Fx hM.size
 clear nsa nma nmh nmt nms nmc nmk nha nta nca nka nsh nst nch nct nkh nkt nkc nsc hA hSl hM b1 x4 xl HT0 HS HMp HH HTb HC HK
 obtain⟨x,hx⟩:∃ x,w1.heap.size=x:=⟨_,rfl⟩
 rw[hx] at HX1
 go_upto_region 2 with fail
 obtain⟨W1,hW1⟩:∃ W1,w1.alloc (.cells #[.int .i64 0,.int .i64 1] 381)=W1:=⟨_,rfl⟩
 rw[hW1] at HS1 HM1 HH1 HT1 HC1 HK1 HA1 HO1 HD1 HX1 ⊢
 have LX:=Fx (show w.heap.size<=x by have:=HZ.out;omega)
 clear hW1 hx HZ
 have hu:=@E2 prog W1.drew 319 3 381 m1 0 0 (.agg #[.int .i64 0,.int .i64 1]) (by kernel_rfl) (by kernel_rfl) HM1.out
 obtain⟨SS,hSS⟩:∃ SS:World->Prop,SS=fun W=>af W st 326 #[.int .i64 0,.int .i64 512,.int .i64 1,.slice none 0 0,.pointer (some ⟨a1,0,none⟩),.map (some m1),.pointer (some ⟨h1,0,none⟩),.slice none 0 0,.pointer (some ⟨a2,0,none⟩),.map (some m2),.pointer (some ⟨c1,0,none⟩),.bool mk,u]/\af W x 381 #[.int .i64 0,.int .i64 1]:=⟨_,rfl⟩
 have HSC:Hid (∀ W,SS W->W.cell? ⟨st,5,none⟩=some (.map (some m1))/\W.cell? ⟨x,0,none⟩=some (.int .i64 0)/\W.cell? ⟨x,1,none⟩=some (.int .i64 1)/\st<W.heap.size/\x<W.heap.size):=Fx (fun W q=>by
  rw[hSS] at q
  obtain⟨r0,r1⟩:=q
  exact⟨(r0.cell 5).trans rfl,(r1.cell 0).trans rfl,(r1.cell 1).trans rfl,r0.lt,r1.lt⟩)
 have HSI:Hid (∀ W,af W st 326 #[.int .i64 0,.int .i64 512,.int .i64 1,.slice none 0 0,.pointer (some ⟨a1,0,none⟩),.map (some m1),.pointer (some ⟨h1,0,none⟩),.slice none 0 0,.pointer (some ⟨a2,0,none⟩),.map (some m2),.pointer (some ⟨c1,0,none⟩),.bool mk,u]/\af W x 381 #[.int .i64 0,.int .i64 1]->SS W):=Fx (fun W q=>by rw[hSS];exact q)
 clear hSS
 have HSS:SS W1.drew:=HSI.out _ (⟨HS1.out.drew,HX1.out.drew⟩)
 refine wp_region_held_drew (by kernel_rfl) HSS (fun _=>?_)
 refine Held.tk 0 21 HSS ?_
 refine Held.tk 1 22 HSS ?_
 refine Held.tk 2 23 HSS ?_
 refine Held.tk 3 24 HSS ?_
 refine Held.tk 4 25 HSS ?_
 refine Held.tk 5 26 HSS ?_
 refine Held.tk 6 27 HSS ?_
 refine Held.on 7 (fun K hK=>?_)
 go_simp
 obtain⟨W2,hW2⟩:∃ W2,dq W1.drew m1 #[{ key:=.int .i64 0,val:=.agg #[.int .i64 0,.int .i64 1],born:=0 }] 1=W2:=⟨_,rfl⟩
 have hd:aq (fun k=>k=m1) W1 W2:=aq.undrew (hW2 ▸ dq.modw W1.drew m1 _ 1)
 rw[hW2]
 obtain⟨nsa,nma,nmh,nmt,nms,nmc,nmk,nha,nta,nca,nka,nsh,nst,nch,nct,nkh,nkt,nkc,nsc⟩:=NE.out
 have nxm:x≠m1:=(HM1.out.ne HX1.out).symm
 have HM2:=Fx (show bF W2 m1 #[{ key:=.int .i64 0,val:=.agg #[.int .i64 0,.int .i64 1],born:=0 }] 1 from hW2 ▸ dq.at (bF.drew HM1.out))
 have HS2:=Fx (HS1.out.mod hd nms.symm)
 have HH2:=Fx (HH1.out.mod hd nmh.symm)
 have HT2:=Fx (HT1.out.mod hd nmt.symm)
 have HC2:=Fx (HC1.out.mod hd nmc.symm)
 have HK2:=Fx (HK1.out.mod hd nmk.symm)
 have HA2:=Fx (HA1.out.mod hd nma.symm)
 have HX2:=Fx (HX1.out.mod hd nxm)
 have HO2:=Fx (hd.ownsRow HO1.out (fun k hk e=>by
  obtain⟨cur,hcur⟩:=kU HO1.out hk
  exact HM1.out.ne hcur e.symm))
 have HD2:=Fx (HD1.out.trans hd (fun _ _ e=>.inr (.inl e)))
 clear nsa nma nmh nmt nms nmc nmk nha nta nca nka nsh nst nch nct nkh nkt nkc nsc hd nxm hW2 hu HSS
 have HSS:=HSI.out W2 ⟨HS2.out,HX2.out⟩
 refine hK.out _ _ HSS ?_
 clear hK K HS1 HM1 HH1 HT1 HC1 HK1 HA1 HX1 HO1 HD1
 try simp only[FG]
 refine wpAnyH_done (by kernel_rfl) ?_ _
 clear HSS HSC HSI
 go_wp2_with fail
 obtain⟨SS,hSS⟩:∃ SS:World->Prop,SS=fun W=>af W st 326 #[.int .i64 0,.int .i64 512,.int .i64 1,.slice none 0 0,.pointer (some ⟨a1,0,none⟩),.map (some m1),.pointer (some ⟨h1,0,none⟩),.slice none 0 0,.pointer (some ⟨a2,0,none⟩),.map (some m2),.pointer (some ⟨c1,0,none⟩),.bool mk,u]/\af W x 381 #[.int .i64 0,.int .i64 1]:=⟨_,rfl⟩
 have HSC:Hid (∀ W,SS W->W.cell? ⟨st,6,none⟩=some (.pointer (some ⟨h1,0,none⟩))/\W.cell? ⟨x,0,none⟩=some (.int .i64 0)/\W.cell? ⟨x,1,none⟩=some (.int .i64 1)/\st<W.heap.size/\x<W.heap.size):=Fx (fun W q=>by
  rw[hSS] at q
  obtain⟨r0,r1⟩:=q
  exact⟨(r0.cell 6).trans rfl,(r1.cell 0).trans rfl,(r1.cell 1).trans rfl,r0.lt,r1.lt⟩)
 have HSI:Hid (∀ W,af W st 326 #[.int .i64 0,.int .i64 512,.int .i64 1,.slice none 0 0,.pointer (some ⟨a1,0,none⟩),.map (some m1),.pointer (some ⟨h1,0,none⟩),.slice none 0 0,.pointer (some ⟨a2,0,none⟩),.map (some m2),.pointer (some ⟨c1,0,none⟩),.bool mk,u]/\af W x 381 #[.int .i64 0,.int .i64 1]->SS W):=Fx (fun W q=>by rw[hSS];exact q)
 clear hSS
 have HSS:SS W2.drew:=HSI.out _ (⟨HS2.out.drew,HX2.out.drew⟩)
 refine wp_region_held_drew (by kernel_rfl) HSS (fun _=>?_)
 refine Held.tk 0 28 HSS ?_
 refine Held.tk 1 29 HSS ?_
 refine Held.tk 2 30 HSS ?_
 refine Held.tk 3 31 HSS ?_
 refine Held.tk 4 32 HSS ?_
 refine Held.tk 6 34 HSS ?_
 refine Held.tk 7 35 HSS ?_
 refine Held.on 5 (fun K hK=>?_)
 go_simp
 refine (DI _ va vc hvc).mono ?_
 rintro e w3 ⟨rfl,hb⟩
 have hD:aq (fun _=>False) W2 w3:=aq.undrew (aq.ofBelow hb)
 have HS3:=Fx (HS2.out.mod hD (fun f=>f))
 have HH3:=Fx (HH2.out.mod hD (fun f=>f))
 have HT3:=Fx (HT2.out.mod hD (fun f=>f))
 have HC3:=Fx (HC2.out.mod hD (fun f=>f))
 have HK3:=Fx (HK2.out.mod hD (fun f=>f))
 have HA3:=Fx (HA2.out.mod hD (fun f=>f))
 have HX3:=Fx (HX2.out.mod hD (fun f=>f))
 have HM3:=Fx (HM2.out.mod hD (fun f=>f))
 have HO3:=Fx (hD.ownsRow HO2.out (fun _ _ f=>f))
 have HD3:=Fx (HD2.out.trans hD (fun _ _ f=>f.elim))
 clear hD hb HSS
 have HSS:=HSI.out w3 ⟨HS3.out,HX3.out⟩
 refine hK.out _ _ HSS ?_
 clear hK K HS2 HM2 HH2 HT2 HC2 HK2 HA2 HX2 HO2 HD2
 try simp only[FG]
 refine Held.on 8 (fun K hK=>?_)
 go_simp
 refine (yu _ h1 tb 0 HH3.out HT3.out).mono ?_
 rintro e w4 ⟨rfl,hd⟩
 obtain⟨nsa,nma,nmh,nmt,nms,nmc,nmk,nha,nta,nca,nka,nsh,nst,nch,nct,nkh,nkt,nkc,nsc⟩:=NE.out
 have nxh:x≠h1:=HX3.out.ne_ HH3.out (by decide)
 have nxt:x≠tb:=HX3.out.ne_ HT3.out (by decide)
 have HS4:=Fx (HS3.out.mod hd (by simp [nsh,nst]))
 have HC4:=Fx (HC3.out.mod hd (by simp [nch,nct]))
 have HK4:=Fx (HK3.out.mod hd (by simp [nkh,nkt]))
 have HA4:=Fx (HA3.out.mod hd (by simp [nha.symm,nta.symm]))
 have HX4:=Fx (HX3.out.mod hd (by simp [nxh,nxt]))
 have HM4:=Fx (HM3.out.mod hd (by simp [nmh,nmt]))
 have HO4:=Fx (hd.ownsRow HO3.out (fun k hk e=>by
  rcases e with e | e
  ·exact aE HO3.out HH3.out (by decide) (by rw[hk,e])
  ·exact aE HO3.out HT3.out (by decide) (by rw[hk,e])))
 have HD4:=Fx (HD3.out.trans hd (fun _ _ e=>e.elim (fun e=>.inr (.inr (.inl e))) (fun e=>.inr (.inr (.inr (.inl e))))))
 clear nsa nma nmh nmt nms nmc nmk nha nta nca nka nsh nst nch nct nkh nkt nkc nsc hd nxh nxt HSS
 have HSS:=HSI.out w4 ⟨HS4.out,HX4.out⟩
 refine hK.out _ _ HSS ?_
 clear hK K HS3 HM3 HH3 HT3 HC3 HK3 HA3 HX3 HO3 HD3
 try simp only[FG]
 refine wpAnyH_done (by kernel_rfl) ?_ _
 clear HSS HSC HSI
 have x2:=HS4.out.cell 2
 have xl:=HS4.out.lt
 have k0:=HK4.out.cell 0
 have kl:=HK4.out.lt
 simp only[FF] at x2 k0
 go_wp2_with fail
 refine wp_loop_rounds 2 ?_
 rw[rounds_succ]
 go_upto_region 13 with fail
 clear x2 xl k0 kl
 have hw0:IntKind.i64.wrap 0=0:=by kernel_rfl
 obtain⟨SS,hSS⟩:∃ SS:World->Prop,SS=fun W=>af W st 326 #[.int .i64 0,.int .i64 512,.int .i64 1,.slice none 0 0,.pointer (some ⟨a1,0,none⟩),.map (some m1),.pointer (some ⟨h1,0,none⟩),.slice none 0 0,.pointer (some ⟨a2,0,none⟩),.map (some m2),.pointer (some ⟨c1,0,none⟩),.bool mk,u]/\af W x 381 #[.int .i64 0,.int .i64 1]:=⟨_,rfl⟩
 have HSC:Hid (∀ W,SS W->W.cell? ⟨st,10,none⟩=some (.pointer (some ⟨c1,0,none⟩))/\W.cell? ⟨st,2,none⟩=some (.int .i64 1)/\W.cell? ⟨x,0,none⟩=some (.int .i64 0)/\W.cell? ⟨x,1,none⟩=some (.int .i64 1)/\st<W.heap.size/\x<W.heap.size):=Fx (fun W q=>by
  rw[hSS] at q
  obtain⟨r0,r1⟩:=q
  exact⟨(r0.cell 10).trans rfl,(r0.cell 2).trans rfl,(r1.cell 0).trans rfl,(r1.cell 1).trans rfl,r0.lt,r1.lt⟩)
 have HSI:Hid (∀ W,af W st 326 #[.int .i64 0,.int .i64 512,.int .i64 1,.slice none 0 0,.pointer (some ⟨a1,0,none⟩),.map (some m1),.pointer (some ⟨h1,0,none⟩),.slice none 0 0,.pointer (some ⟨a2,0,none⟩),.map (some m2),.pointer (some ⟨c1,0,none⟩),.bool mk,u]/\af W x 381 #[.int .i64 0,.int .i64 1]->SS W):=Fx (fun W q=>by rw[hSS];exact q)
 clear hSS
 have HSS:SS w4.drew:=HSI.out _ (⟨HS4.out.drew,HX4.out.drew⟩)
 refine wp_region_held_drew (by kernel_rfl) HSS (fun _=>?_)
 refine Held.tk 0 83 HSS ?_
 refine Held.tk 1 84 HSS ?_
 refine Held.tk 2 85 HSS ?_
 refine Held.tk 3 86 HSS ?_
 refine Held.tk 4 87 HSS ?_
 refine Held.tk 5 88 HSS ?_
 refine Held.tk 6 89 HSS ?_
 refine Held.tk 7 90 HSS ?_
 refine Held.tk 8 91 HSS ?_
 refine Held.tk 9 92 HSS ?_
 refine Held.tk 10 93 HSS ?_
 refine Held.tk 11 94 HSS ?_
 refine Held.on 12 (fun K hK=>?_)
 go_simp
 refine hK.out _ _ HSS ?_
 clear hK K
 try simp only[FG]
 refine Held.tk 13 96 HSS ?_
 refine Held.on 14 (fun K hK=>?_)
 go_simp
 refine (EB _ c1 HC4.out.drew).mono ?_
 rintro e w5 ⟨hl,hc,ge,ec,rfl,hhc,hec,hC5,hL5,hE5,hd0⟩
 have hd:=aq.undrew hd0
 obtain⟨nsa,nma,nmh,nmt,nms,nmc,nmk,nha,nta,nca,nka,nsh,nst,nch,nct,nkh,nkt,nkc,nsc⟩:=NE.out
 have nxc:x≠c1:=HX4.out.ne_ HC4.out (by decide)
 have hsz:=HD4.out.size
 have HS5:=Fx (HS4.out.mod hd nsc)
 have HX5:=Fx (HX4.out.mod hd nxc)
 have HR5:=Fx (show bC w.heap.size w5 a1 m1 c1 (.slice va 0 vc) from ⟨g,gc,hl,hc,ge,ec,hgc,hhc,hec,HA4.out.mod hd nca.symm,hd.ownsRow HO4.out (fun k hk e=>aE HO4.out HC4.out (by decide) (by rw[hk,e])),HM4.out.mod hd nmc,hC5,World.ownsRow.low hL5 hsz,World.ownsRow.low hE5 hsz⟩)
 have HD5:=Fx (HD4.out.trans hd (fun _ _ e=>.inr (.inr (.inr (.inr e)))))
 clear nsa nma nmh nmt nms nmc nmk nha nta nca nka nsh nst nch nct nkh nkt nkc nsc hd hd0 nxc hsz hC5 hL5 hE5 HSS
 have HSS:=HSI.out w5 ⟨HS5.out,HX5.out⟩
 refine hK.out _ _ HSS ?_
 clear hK K HS4 HM4 HC4 HK4 HA4 HX4 HO4 HD4
 try simp only[FG]
 refine wpAnyH_done (by kernel_rfl) ?_ _
 clear HSS HSC HSI
 have y0:=HX5.out.cell 0
 have yl:=HX5.out.lt
 simp only[List.getElem?_toArray,List.getElem?_cons_zero] at y0
 go_wp2_with fail
 rw[rounds_succ]
 go_wp2_with fail
 go_ret
 exact⟨rfl,HR5.out,HD5.out⟩
structure sV (w:World) (st a1 m1 h1 tb a2 m2 c1:Nat) (mk:Bool) (p:Int):Prop where
 s:af w st 326 #[.int .i64 0,.int .i64 512,.int .i64 1,.slice none 0 0,.pointer (some ⟨a1,0,none⟩),.map (some m1),.pointer (some ⟨h1,0,none⟩),.slice none 0 0,.pointer (some ⟨a2,0,none⟩),.map (some m2),.pointer (some ⟨c1,0,none⟩),.bool mk,.slice none 0 0]
 a:af w a1 394 #[.int .i64 512,.int .i64 1073741824,.slice none 0 0,.slice none 0 0,.int .i64 0]
 m:bF w m1 #[] 0
 h:af w h1 397 #[.int .i64 512,.int .i64 0,.int .i64 0,.int .i64 p,.slice (some ⟨tb,0,none⟩) 8 8]
 t:af w tb 428 fM.toArray
 c:af w c1 377 #[.int .i64 512,.slice none 0 0,.int .i64 513,.slice none 0 0]
theorem Dd.emp {w:World} {st a1 m1 h1 tb a2 m2 c1:Nat} {mk:Bool} (h:Dd w st a1 m1 h1 tb a2 m2 c1 mk):sV w st a1 m1 h1 tb a2 m2 c1 mk 0:=⟨h.pst,h.pa1,h.pm1,h.ph1,wE h.ptb,h.pc1⟩
theorem sV.mod {F:Nat->Prop} {w w':World} {st a1 m1 h1 tb a2 m2 c1:Nat} {mk:Bool} {p:Int} (h:sV w st a1 m1 h1 tb a2 m2 c1 mk p) (hm:aq F w w') (hF:∀ k,(k=st∨k=a1∨k=m1∨k=h1∨k=tb∨k=c1)->¬ F k):sV w' st a1 m1 h1 tb a2 m2 c1 mk p :=
 ⟨h.s.mod hm (hF _ (.inl rfl)),h.a.mod hm (hF _ (.inr (.inl rfl))),h.m.mod hm (hF _ (.inr (.inr (.inl rfl)))),h.h.mod hm (hF _ (.inr (.inr (.inr (.inl rfl))))),h.t.mod hm (hF _ (.inr (.inr (.inr (.inr (.inl rfl)))))),h.c.mod hm (hF _ (.inr (.inr (.inr (.inr (.inr rfl))))))⟩
theorem sV.keep {w w':World} {st a1 m1 h1 tb a2 m2 c1:Nat} {mk:Bool} {p:Int} (h:sV w st a1 m1 h1 tb a2 m2 c1 mk p) (hb:Below w.heap.size w w'):sV w' st a1 m1 h1 tb a2 m2 c1 mk p :=
 h.mod (aq.ofBelow (F:=fun _=>False) hb) (fun _ _ f=>f)
theorem DP (w:World) (st a1 m1 h1 tb a2 m2 c1:Nat) (p:Int) (h:sV w st a1 m1 h1 tb a2 m2 c1 false p):Calls prog 238 #[.pointer (some ⟨st,0,none⟩)] w fun e w'=>e=.returned (.int .i64 0)/\sV w' st a1 m1 h1 tb a2 m2 c1 true p/\aq (fun k=>k=st) w w':=by
 have x11:=h.s.cell 11
 have xf:=h.s.frozen 11
 have xl:=h.s.lt
 simp only[FF] at x11
 have H:=Fx h
 clear h
 go_enter func238,ntmps238
 go_wp2_with fail
 go_ret
 have hd:aq (fun k=>k=st) w (w.setCell ⟨st,11,none⟩ (.bool true)):=(aq.refl (fun k=>k=st) w).setCell (p:=⟨st,11,none⟩) (fun _=>rfl) _
 exact⟨rfl,⟨by simpa using H.out.s.set_ 11 (.bool true),H.out.a.mod hd (H.out.a.ne_ H.out.s (by decide)),H.out.m.mod hd (H.out.m.ne H.out.s),H.out.h.mod hd (H.out.h.ne_ H.out.s (by decide)),H.out.t.mod hd (H.out.t.ne_ H.out.s (by decide)),H.out.c.mod hd (H.out.c.ne_ H.out.s (by decide))⟩,hd⟩
theorem Dz (w:World) (st a1 m1 h1 a2 m2 c1:Nat) (u:Value) (hu:u.oneCell'=true) (h:af w st 326 #[.int .i64 0,.int .i64 512,.int .i64 1,.slice none 0 0,.pointer (some ⟨a1,0,none⟩),.map (some m1),.pointer (some ⟨h1,0,none⟩),.slice none 0 0,.pointer (some ⟨a2,0,none⟩),.map (some m2),.pointer (some ⟨c1,0,none⟩),.bool true,u]):Calls prog 240 #[.pointer (some ⟨st,0,none⟩)] w fun e w'=>e=.returned (.int .i64 0)/\af w' st 326 #[.int .i64 0,.int .i64 512,.int .i64 1,.slice none 0 0,.pointer (some ⟨a1,0,none⟩),.map (some m1),.pointer (some ⟨h1,0,none⟩),.slice none 0 0,.pointer (some ⟨a2,0,none⟩),.map (some m2),.pointer (some ⟨c1,0,none⟩),.bool false,.slice none 0 0]/\aq (fun k=>k=st) w w':=by
 have x11:=h.cell 11
 have xf:=h.frozen 11
 have x12:=h.cell 12
 have xg:=h.frozen 12
 have xl:=h.lt
 simp only[FF] at x11 x12
 have H:=Fx h
 clear h
 go_enter func240,ntmps240
 go_wp2_with fail
 go_ret
 refine⟨rfl,?_,((aq.refl (fun k=>k=st) w).setCell (p:=⟨st,11,none⟩) (fun _=>rfl) _).setCell (p:=⟨st,12,none⟩) (fun _=>rfl) _⟩
 simpa using (H.out.set_ 11 (.bool false)).set_ 12 (.slice none 0 0)
theorem bC.low {B B':Nat} {w:World} {a1 m1 c1:Nat} {r:Value} (h:bC B w a1 m1 c1 r) (hb:B'<=B):bC B' w a1 m1 c1 r:=by
 obtain⟨g,gc,hl,hc,ge,ec,q1,q2,q3,q4,q5,q6,q7,q8,q9⟩:=h
 exact⟨g,gc,hl,hc,ge,ec,q1,q2,q3,q4,World.ownsRow.low q5 hb,q6,q7,World.ownsRow.low q8 hb,World.ownsRow.low q9 hb⟩
def Cu (w w':World) (st a1 m1 h1 tb a2 m2 c1:Nat):Prop:=∃ u ka kc,u.oneCell'=true/\kc<=maxLen/\af w' st 326 #[.int .i64 0,.int .i64 512,.int .i64 1,.slice none 0 0,.pointer (some ⟨a1,0,none⟩),.map (some m1),.pointer (some ⟨h1,0,none⟩),.slice none 0 0,.pointer (some ⟨a2,0,none⟩),.map (some m2),.pointer (some ⟨c1,0,none⟩),.bool true,u]/\bC w.heap.size w' a1 m1 c1 (.slice ka 0 kc)/\aq (fun k=>k=st∨k=a1∨k=m1∨k=h1∨k=tb∨k=c1) w w'
theorem Tryz.infoFn:(prog.info? 1).map (fun i=>(i.zero,i.size,i.bytes))=some (some .nilFunc,1,8):=by kernel_rfl
theorem Tryz.infoI:(prog.info? 3).map (fun i=>(i.zero,i.size,i.bytes))=some (some (.int .i64 0),1,8):=by kernel_rfl
theorem Fb (w:World) (st a1 m1 h1 tb a2 m2 c1:Nat) (va:Option Addr) (vc:Nat) (hvc:vc<=maxLen) (h:sV w st a1 m1 h1 tb a2 m2 c1 true 0) :
 Calls prog 243 #[.pointer (some ⟨st,0,none⟩),.slice va 0 vc] w fun e w'=>e=.returned (.tuple #[.bool true,.int .i64 0])/\Cu w w' st a1 m1 h1 tb a2 m2 c1:=by
 obtain⟨ii,hii,hj0,hj1,hj2⟩:=info_parts Tryz.infoI
 obtain⟨fi,hfi,hg0,hg1,hg2⟩:=info_parts Tryz.infoFn
 have hmf:∀ (fn:Fn) (first cap:Array Value) (w:World),(Instr.makeFunc fn first cap).run prog w=.ok (.func fn first cap) w:=fun _ _ _ _=>rfl
 obtain⟨y,hy⟩:∃ y,w.heap.size=y:=⟨_,rfl⟩
 have b0:Below w.heap.size w (w.alloc (.cells #[.pointer (some ⟨st,0,none⟩)] 183)):=ae Fy _
 have q0:=h.keep b0
 have LS:Hid (st<y):=Fx (hy ▸ h.s.lt)
 have HE0:=Fx q0
 have HY0:Hid (af (w.alloc (.cells #[.pointer (some ⟨st,0,none⟩)] 183)) y 183 #[.pointer (some ⟨st,0,none⟩)]):=Fx (hy ▸ af.new w _ _)
 have HD0:Hid (aq (fun k=>k=st∨k=a1∨k=m1∨k=h1∨k=tb∨k=c1) w (w.alloc (.cells #[.pointer (some ⟨st,0,none⟩)] 183))):=Fx (aq.ofBelow b0)
 have HF:=Fx (DH _ st _ va vc q0.s rfl hvc)
 clear h b0 q0
 go_enter func243,ntmps243
 go_wp2_with fail
 refine HF.out.mono ?_
 rintro e w1 ⟨rfl,hb⟩
 have HE1:=Fx (HE0.out.keep hb)
 have HY1:=Fx (HY0.out.below hb HY0.out.lt)
 have HD1:=Fx (HD0.out.trans (aq.ofBelow (F:=fun _=>False) hb) (fun _ _ f=>f.elim))
 have z0:=HY1.out.cell 0
 have zl:=HY1.out.lt
 simp only[List.getElem?_toArray,List.getElem?_cons_zero] at z0
 have HG:=Fx (EW w1 st h1 tb _ va vc HE1.out.s rfl rfl HE1.out.h HE1.out.t hvc)
 clear hb HE0 HY0 HD0 HF
 go_wp2_with fail
 refine HG.out.mono ?_
 rintro e w2 ⟨rfl,hh2,hd2⟩
 have HE2:Hid (sV w2 st a1 m1 h1 tb a2 m2 c1 true 1):=Fx ⟨HE1.out.s.mod hd2 (HE1.out.s.ne_ HE1.out.h (by decide)),HE1.out.a.mod hd2 (HE1.out.a.ne_ HE1.out.h (by decide)),HE1.out.m.mod hd2 (HE1.out.m.ne HE1.out.h),hh2,HE1.out.t.mod hd2 (HE1.out.t.ne_ HE1.out.h (by decide)),HE1.out.c.mod hd2 (HE1.out.c.ne_ HE1.out.h (by decide))⟩
 have HY2:=Fx (HY1.out.mod hd2 (HY1.out.ne_ HE1.out.h (by decide)))
 have HD2:=Fx (HD1.out.trans hd2 (fun _ _ e=>.inr (.inr (.inr (.inl e)))))
 clear hh2 hd2 z0 zl HE1 HY1 HD1 HG
 go_wp2_with fail
 obtain⟨SS,hSS⟩:∃ SS:World->Prop,SS=fun W=>af W y 183 #[.pointer (some ⟨st,0,none⟩)]/\af W st 326 #[.int .i64 0,.int .i64 512,.int .i64 1,.slice none 0 0,.pointer (some ⟨a1,0,none⟩),.map (some m1),.pointer (some ⟨h1,0,none⟩),.slice none 0 0,.pointer (some ⟨a2,0,none⟩),.map (some m2),.pointer (some ⟨c1,0,none⟩),.bool true,.slice none 0 0]:=⟨_,rfl⟩
 have HSC:Hid (∀ W,SS W->W.cell? ⟨y,0,none⟩=some (.pointer (some ⟨st,0,none⟩))/\W.cell? ⟨st,1,none⟩=some (.int .i64 512)/\y<W.heap.size/\st<W.heap.size):=Fx (fun W q=>by
  rw[hSS] at q
  obtain⟨r0,r1⟩:=q
  exact⟨(r0.cell 0).trans rfl,(r1.cell 1).trans rfl,r0.lt,r1.lt⟩)
 have HSI:Hid (∀ W,af W y 183 #[.pointer (some ⟨st,0,none⟩)]/\af W st 326 #[.int .i64 0,.int .i64 512,.int .i64 1,.slice none 0 0,.pointer (some ⟨a1,0,none⟩),.map (some m1),.pointer (some ⟨h1,0,none⟩),.slice none 0 0,.pointer (some ⟨a2,0,none⟩),.map (some m2),.pointer (some ⟨c1,0,none⟩),.bool true,.slice none 0 0]->SS W):=Fx (fun W q=>by rw[hSS];exact q)
 clear hSS
 have HSS:SS w2.drew:=HSI.out _ (⟨HY2.out.drew,HE2.out.s.drew⟩)
 refine wp_region_held_drew (by kernel_rfl) HSS (fun _=>?_)
 refine Held.tk 0 20 HSS ?_
 refine Held.tk 2 22 HSS ?_
 refine Held.tk 3 23 HSS ?_
 refine Held.tk 4 24 HSS ?_
 refine Held.tk 5 25 HSS ?_
 refine Held.on 1 (fun K hK=>?_)
 go_simp
 refine (EA w2.drew st a1 _ _ 0 HE2.out.s.drew rfl HE2.out.a.drew rfl).mono ?_
 rintro e w3 ⟨rfl,rfl⟩
 refine hK.out _ _ HSS ?_
 clear hK K
 try simp only[FG]
 refine Held.tk 6 26 HSS ?_
 refine Held.tk 7 19 HSS ?_
 refine wpAnyH_done (by kernel_rfl) ?_ _
 clear HSS HSC HSI
 have HE3:Hid (sV w2.drew st a1 m1 h1 tb a2 m2 c1 true 1):=Fx (HE2.out.keep (ay Fy))
 have HY3:=Fx HY2.out.drew
 have HD3:=Fx HD2.out.drew
 obtain⟨w3,hw3⟩:∃ w3,w2.drew=w3:=⟨_,rfl⟩
 rw[hw3] at HE3 HY3 HD3 ⊢
 clear hw3 HE2 HY2 HD2
 have z0:=HY3.out.cell 0
 have zl:=HY3.out.lt
 have x2:=HE3.out.s.cell 2
 have xl:=HE3.out.s.lt
 simp only[FF] at z0 x2
 obtain⟨ah,hah⟩:∃ ah,w3.heap.size=ah:=⟨_,rfl⟩
 go_wp2_with (at_make;refine wpList_make_full _ rfl _ _ 215 rfl y 3 ii (.int .i64 0) 1 underlying215 hii hj0 hj1 _ _ _ _ 1 rfl rfl rfl rfl ?b2 ?b3 ?b4 ?_)
 case b2=>rw[hj2];omega
 case b3=>unfold maxLen;omega
 case b4=>rw[<-hy];exact HD3.out.size
 intro w4 hown4 hgrow4
 try rw[hah] at hown4
 replace hown4:w4.ownsRow y 3 1 (.slice (some ⟨ah,0,none⟩) 1 1) 1 [.int .i64 0]:=by
  have hz:(madeCells #[.int .i64 0] 1).toList=[.int .i64 0]:=by kernel_rfl
  rw[<-hz]
  exact hown4
 have hb4:Below w3.heap.size w3 w4:=(Below.refl _ w3).grown hgrow4 FA (fun q hq=>by cases hq)
 have HA4:=Fx (wE hown4)
 have HE4:=Fx (HE3.out.keep hb4)
 have HY4:=Fx (HY3.out.below hb4 HY3.out.lt)
 have HD4:=Fx (HD3.out.trans (aq.ofBelow (F:=fun _=>False) hb4) (fun _ _ f=>f.elim))
 have LA:=Fx (show y<=ah by have:=HD3.out.size;omega)
 clear hah
 have k0:=hown4.cellAt 0 (by simp)
 have kf:=hown4.frozenAt 0
 have kl:=HA4.out.lt
 simp only[List.getElem?_cons_zero] at k0
 clear hown4 hgrow4 hb4 HE3 HY3 HD3 z0 zl x2 xl
 go_wp2_with fail
 refine wp_loop_rounds 2 ?_
 rw[rounds_succ]
 go_wp2_with fail
 rw[rounds_succ]
 go_wp2_with fail
 obtain⟨w5,hw5⟩:∃ w5,w4.setCell ⟨ah,0,none⟩ (.int .i64 (-1))=w5:=⟨_,rfl⟩
 rw[hw5]
 have hA5:af w5 ah 3 #[.int .i64 (-1)]:=hw5 ▸ (by simpa using HA4.out.set_ 0 (.int .i64 (-1)))
 have hd5:aq (fun k=>k=ah) w4 w5:=hw5 ▸ (aq.refl (fun k=>k=ah) w4).setCell (p:=⟨ah,0,none⟩) (fun _=>rfl) _
 have HA5:=Fx hA5
 have HE5:=Fx (HE4.out.mod hd5 (fun k hk e=>by
  subst e
  rcases hk with e | e | e | e | e | e
  ·exact HE4.out.s.ne_ HA4.out (by decide) e.symm
  ·exact HE4.out.a.ne_ HA4.out (by decide) e.symm
  ·exact HE4.out.m.ne HA4.out e.symm
  ·exact HE4.out.h.ne_ HA4.out (by decide) e.symm
  ·exact HE4.out.t.ne_ HA4.out (by decide) e.symm
  ·exact HE4.out.c.ne_ HA4.out (by decide) e.symm))
 have HY5:=Fx (HY4.out.mod hd5 (HY4.out.ne_ HA4.out (by decide)))
 have HD5:=Fx (HD4.out.trans hd5 (fun k hk e=>by have:=LA.out;omega))
 clear hw5 hA5 hd5 k0 kf kl HA4 HE4 HY4 HD4
 refine (iU w5 (.slice va 0 vc) [] (dG w5 va vc 3 hvc) (by simp) (by simp) (by simp)).mono ?_
 rintro e w6 ⟨v6,rfl,ho6,hb6⟩
 obtain⟨ka,kc,rfl⟩:=aB ho6
 have LK:=Fx (show kc<=maxLen by
  rcases ho6.2 with ⟨e,_⟩ | ⟨g',cap',cur,e,_,_,_,q,_⟩
  ·simp only[Value.slice.injEq] at e
   omega
  ·simp only[Value.slice.injEq] at e
   omega)
 simp only[List.length_nil]
 obtain⟨kb,hkb⟩:∃ kb,w6.heap.size=kb:=⟨_,rfl⟩
 have b7:Below w6.heap.size w6 (w6.alloc (.cells #[.slice ka 0 kc] 59)):=ae Fy _
 have b57:Below w5.heap.size w5 (w6.alloc (.cells #[.slice ka 0 kc] 59)):=dZ hb6 b7
 obtain⟨w7,hw7⟩:∃ w7,w6.alloc (.cells #[.slice ka 0 kc] 59)=w7:=⟨_,rfl⟩
 have HB7:Hid (af w7 kb 59 #[.slice ka 0 kc]):=Fx (hw7 ▸ hkb ▸ af.new _ _ _)
 rw[hw7] at b57
 have HE7:=Fx (HE5.out.keep b57)
 have HY7:=Fx (HY5.out.below b57 HY5.out.lt)
 have HA7:=Fx (HA5.out.below b57 HA5.out.lt)
 have HD7:=Fx (HD5.out.trans (aq.ofBelow (F:=fun _=>False) b57) (fun _ _ f=>f.elim))
 have HL:=Fx (ET w7 st a1 m1 h1 tb a2 m2 c1 ah true (.slice none 0 0) ka kc LK.out HE7.out.s HE7.out.a HE7.out.m HE7.out.h HE7.out.t HE7.out.c HA7.out)
 have z0:=HY7.out.cell 0
 have zl:=HY7.out.lt
 have z1:=HB7.out.cell 0
 have z2:=HB7.out.lt
 simp only[List.getElem?_toArray,List.getElem?_cons_zero] at z0 z1
 clear ho6 hb6 b7 b57 HA5 HE5 HY5 HD5
 go_wp2_with fail
 refine HL.out.mono ?_
 rintro e w8 ⟨rfl,hr8,hd8⟩
 have ns:¬ (st=a1∨st=m1∨st=h1∨st=tb∨st=c1):=by
  rintro (e | e | e | e | e)
  ·exact HE7.out.s.ne_ HE7.out.a (by decide) e
  ·exact HE7.out.m.ne HE7.out.s e.symm
  ·exact HE7.out.s.ne_ HE7.out.h (by decide) e
  ·exact HE7.out.s.ne_ HE7.out.t (by decide) e
  ·exact HE7.out.s.ne_ HE7.out.c (by decide) e
 have ny:¬ (y=a1∨y=m1∨y=h1∨y=tb∨y=c1):=by
  rintro (e | e | e | e | e)
  ·exact HY7.out.ne_ HE7.out.a (by decide) e
  ·exact HE7.out.m.ne HY7.out e.symm
  ·exact HY7.out.ne_ HE7.out.h (by decide) e
  ·exact HY7.out.ne_ HE7.out.t (by decide) e
  ·exact HY7.out.ne_ HE7.out.c (by decide) e
 have HS8:=Fx (HE7.out.s.mod hd8 ns)
 have HY8:=Fx (HY7.out.mod hd8 ny)
 have HR8:=Fx (show bC y w8 a1 m1 c1 (.slice ka 0 kc) from hr8.low (by have:=HD7.out.size;omega))
 have HD8:=Fx (HD7.out.trans hd8 (fun _ _ e=>.inr e))
 have LB:=Fx (show y<=w8.heap.size by have:=HD7.out.size;have:=hd8.size;omega)
 have NA:=Fx (show st≠a1/\m1≠st/\st≠c1 from ⟨fun e=>ns (.inl e),fun e=>ns (.inr (.inl e.symm)),fun e=>ns (.inr (.inr (.inr (.inr e))))⟩)
 have y0:=HY8.out.cell 0
 have yl:=HY8.out.lt
 have x11:=HS8.out.cell 11
 have xl:=HS8.out.lt
 simp only[FF] at y0 x11
 clear hr8 hd8 ns ny z0 zl z1 z2 HE7 HY7 HA7 HD7 HB7 HL hw7
 go_upto_region 16 with fail
 clear y0 yl x11 xl
 obtain⟨SS,hSS⟩:∃ SS:World->Prop,SS=fun W=>af W y 183 #[.pointer (some ⟨st,0,none⟩)]/\af W st 326 #[.int .i64 0,.int .i64 512,.int .i64 1,.slice none 0 0,.pointer (some ⟨a1,0,none⟩),.map (some m1),.pointer (some ⟨h1,0,none⟩),.slice none 0 0,.pointer (some ⟨a2,0,none⟩),.map (some m2),.pointer (some ⟨c1,0,none⟩),.bool true,.slice none 0 0]:=⟨_,rfl⟩
 have HSC:Hid (∀ W,SS W->W.cell? ⟨y,0,none⟩=some (.pointer (some ⟨st,0,none⟩))/\W.cell? ⟨st,12,none⟩=some (.slice none 0 0)/\y<W.heap.size/\st<W.heap.size):=Fx (fun W q=>by
  rw[hSS] at q
  obtain⟨r0,r1⟩:=q
  exact⟨(r0.cell 0).trans rfl,(r1.cell 12).trans rfl,r0.lt,r1.lt⟩)
 have HSI:Hid (∀ W,af W y 183 #[.pointer (some ⟨st,0,none⟩)]/\af W st 326 #[.int .i64 0,.int .i64 512,.int .i64 1,.slice none 0 0,.pointer (some ⟨a1,0,none⟩),.map (some m1),.pointer (some ⟨h1,0,none⟩),.slice none 0 0,.pointer (some ⟨a2,0,none⟩),.map (some m2),.pointer (some ⟨c1,0,none⟩),.bool true,.slice none 0 0]->SS W):=Fx (fun W q=>by rw[hSS];exact q)
 clear hSS
 have HSS:SS w8.drew:=HSI.out _ (⟨HY8.out.drew,HS8.out.drew⟩)
 refine am.start SS 10 (by kernel_rfl) ?_
 refine am.tk 0 51 HSS ?_
 refine am.tk 1 52 HSS ?_
 refine am.tk 2 53 HSS ?_
 refine am.tk 3 54 HSS ?_
 refine am.tk 4 55 HSS ?_
 refine am.on 5 (fun K hK=>?_)
 go_simp
 refine hK.out _ _ (fun _=>HSS) ?_
 clear hK K
 try simp only[FG]
 refine am.on 6 (fun K hK=>?_)
 go_simp
 have b9:Below w8.heap.size w8 (w8.alloc (.cells #[.func (.func 279) #[] #[.pointer (some ⟨y,0,none⟩),.pointer (some ⟨kb,0,none⟩)]] 1)).drew:=ay (ae Fy _)
 have HS9:=Fx (HS8.out.below b9 HS8.out.lt)
 have HY9:=Fx (HY8.out.below b9 HY8.out.lt)
 have HR9:=Fx (HR8.out.keep b9)
 have HD9:=Fx (HD8.out.trans (aq.ofBelow (F:=fun _=>False) b9) (fun _ _ f=>f.elim))
 have hn9:=World.news_of_block (af.new w8 1 #[.func (.func 279) #[] #[.pointer (some ⟨y,0,none⟩),.pointer (some ⟨kb,0,none⟩)]]).drew
 obtain⟨w9,hw9⟩:∃ w9,(w8.alloc (.cells #[.func (.func 279) #[] #[.pointer (some ⟨y,0,none⟩),.pointer (some ⟨kb,0,none⟩)]] 1)).drew=w9:=⟨_,rfl⟩
 rw[hw9] at HS9 HY9 HR9 HD9 hn9 ⊢
 have HN9:=Fx hn9
 clear b9 hw9 hn9 HSS
 have HSS:=HSI.out w9 ⟨HY9.out,HS9.out⟩
 refine hK.out _ _ (fun _=>HSS) ?_
 clear hK K HS8 HY8 HR8 HD8
 try simp only[FG]
 refine am.on 7 (fun K hK=>?_)
 refine step_append_lies _ rfl (.tmp 55) (.tmp 57) 324 rfl y 1 fi .nilFunc 1 8 underlying324 hfi hg0 hg1 hg2 rfl (by decide) (.slice none 0 0) 0 [] rfl (World.ownsRow_nil _ _ _ _) ⟨_,0,none⟩ 1 1 [.func (.func 279) #[] #[.pointer (some ⟨y,0,none⟩),.pointer (some ⟨kb,0,none⟩)]] rfl rfl HN9.out (by simp [Value.oneCell']) (by decide) (by unfold maxLen;omega) (by omega) ?c4 _ rfl ?_
 case c4=>rw[<-hy];exact HD9.out.size
 intro gu cu w10 hown10 hgrow10 hat10 hlt10
 have b10:Below w9.heap.size w9 w10:=(Below.refl _ w9).grown hgrow10 FA (fun q hq=>by cases hq)
 have HS10:=Fx (HS9.out.below b10 HS9.out.lt)
 have HY10:=Fx (HY9.out.below b10 HY9.out.lt)
 have HR10:=Fx (HR9.out.keep b10)
 have HD10:=Fx (HD9.out.trans (aq.ofBelow (F:=fun _=>False) b10) (fun _ _ f=>f.elim))
 clear hown10 hgrow10 hat10 hlt10 b10 HSS
 have HSS:=HSI.out w10 ⟨HY10.out,HS10.out⟩
 refine hK.out _ _ (fun _=>HSS) ?_
 clear hK K HS9 HY9 HR9 HD9
 simp only[Act.put,List.getElem_toArray,List.getElem_cons_succ,List.getElem_cons_zero,List.setIfInBounds_toArray,List.set_cons_succ,List.set_cons_zero]
 try simp only[FG]
 refine am.on 8 (fun K hK=>?_)
 go_simp
 refine hK.out _ _ (fun _=>HSS) ?_
 clear hK K
 try simp only[FG]
 refine am.tk 9 60 HSS ?_
 refine am.on 10 (fun K hK=>?_)
 have x12:=HS10.out.cell 12
 have xf:=HS10.out.frozen 12
 have xl:=HS10.out.lt
 simp only[FF] at x12
 go_simp
 obtain⟨w11,hw11⟩:∃ w11,w10.setCell ⟨st,12,none⟩ (.slice (some ⟨gu,0,none⟩) 1 cu)=w11:=⟨_,rfl⟩
 rw[hw11]
 have hd:aq (fun k=>k=st) w10 w11:=hw11 ▸ (aq.refl (fun k=>k=st) w10).setCell (p:=⟨st,12,none⟩) (fun _=>rfl) _
 have HS11:Hid (af w11 st 326 #[.int .i64 0,.int .i64 512,.int .i64 1,.slice none 0 0,.pointer (some ⟨a1,0,none⟩),.map (some m1),.pointer (some ⟨h1,0,none⟩),.slice none 0 0,.pointer (some ⟨a2,0,none⟩),.map (some m2),.pointer (some ⟨c1,0,none⟩),.bool true,.slice (some ⟨gu,0,none⟩) 1 cu]):=Fx (hw11 ▸ (by simpa using HS10.out.set_ 12 (.slice (some ⟨gu,0,none⟩) 1 cu)))
 have HY11:=Fx (HY10.out.mod hd (HY10.out.ne_ HS10.out (by decide)))
 have HR11:=Fx (HR10.out.mod hd (fun e=>NA.out.1 e.symm) NA.out.2.1 (fun e=>NA.out.2.2 e.symm) (fun k e=>.inl (by have:=LS.out;omega)))
 have HD11:=Fx (HD10.out.trans hd (fun _ _ e=>.inl e))
 clear hd hw11 x12 xf xl HSS
 refine hK.out _ _ (fun h=>by simp at h) ?_
 clear hK K HS10 HY10 HR10 HD10
 try simp only[FG]
 refine am.done (by kernel_rfl) ?_
 clear HSC HSI
 go_wp2_with fail
 go_ret2
 exact⟨rfl,_,ka,kc,rfl,LK.out,HS11.out,hy ▸ HR11.out,HD11.out⟩
