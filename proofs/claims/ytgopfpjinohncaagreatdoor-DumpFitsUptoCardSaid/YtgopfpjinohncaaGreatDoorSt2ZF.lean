/- store.New at width 0 without groupings, walked. -/
import Derived.Test.YtgopfpjinohncaaGreatDoorKxF
import Derived.Test.YtgopfpjinohncaaGreatDoorCyF
set_option maxHeartbeats 8000000
set_option maxRecDepth 100000
set_option linter.unusedVariables false
namespace Go.Proofs.YtgopfpjinohncaaGreatDoor
open Go.Proofs.Tryz
open Go.RowKit
theorem An (w:World):Calls prog 181 #[.int .i64 0,.int .i64 512,.slice none 0 0] w fun e w'=>∃ a1 m1 h1 tb a2 m2 c1,e=.returned (.tuple #[.pointer (some ⟨w.heap.size,0,none⟩),.int .i64 0])/\Dd w' w.heap.size a1 m1 h1 tb a2 m2 c1 false/\Below w.heap.size w w':=by
 go_enter func181,ntmps181
 go_wp2_with fail
 go_loopw [41] (fun i wr=>i=.int .i64 0/\wr=w.alloc (.cells #[.int .i64 0,.int .i64 512,.int .i64 1,.slice none 0 0,.pointer none,.map none,.pointer none,.slice none 0 0,.pointer none,.map none,.pointer none,.bool false,.slice none 0 0] 326)) (fun _ _=>0)
 case atStart=>exact⟨rfl,rfl⟩
 case round =>
  obtain⟨rfl,rfl⟩:=hrel
  have H:=Fx (Cr _ _ (af.new w 326 #[.int .i64 0,.int .i64 512,.int .i64 1,.slice none 0 0,.pointer none,.map none,.pointer none,.slice none 0 0,.pointer none,.map none,.pointer none,.bool false,.slice none 0 0]))
  go_wp2_with fail
  refine H.out.mono ?_
  rintro e w1 ⟨rfl,a1,m1,h1,tb,a2,m2,c1,hS,hM⟩
  have hB:=hM.below (B:=w.heap.size) (by simp)
  go_wp2_with fail
  go_ret2
  exact⟨a1,m1,h1,tb,a2,m2,c1,rfl,hS,(ae Fy _).trans hB⟩
def cP (w:World) (bb ss mb:Nat):Prop:=af w bb 175 #[.pointer (some ⟨ss,0,none⟩),.int .i64 512,.map (some mb)]
theorem AB (w:World):Calls prog 40 #[.int .i64 8,.int .i64 512] w fun e w'=>∃ bb ss mb,e=.returned (.tuple #[.pointer (some ⟨bb,0,none⟩),.int .i64 0])/\cP w' bb ss mb/\bE (fun _=>False) w' ss 8 []/\bF w' mb #[] 0/\w.heap.size<=bb/\w.heap.size<=ss/\w.heap.size<=mb/\Below w.heap.size w w':=by
 have hmm:=@run_makeMap prog
 go_enter func40,ntmps40
 go_wp2_with fail
 refine (D7 8 w (by decide) (by decide)).mono ?_
 rintro e w1 ⟨rfl,h1⟩
 obtain⟨W1,hW1⟩:∃ W1,w1=W1:=⟨_,rfl⟩
 have hs:bE (fun _=>False) w1 w.heap.size 8 []:=by rw[h1];exact bE.new w 8
 have hb:Below w.heap.size w w1:=by rw[h1];exact ae Fy _
 clear h1
 have HS:=Fx hs
 have HB:=Fx hb
 clear hs hb hW1
 go_wp2_with fail
 go_ret2
 have hsz:=HB.out.size
 have q:=af.new (w1.alloc (.map #[] 0)) 175 #[.pointer (some ⟨w.heap.size,0,none⟩),.int .i64 512,.map (some w1.heap.size)]
 have e1:(w1.alloc (.map #[] 0)).heap.size=w1.heap.size+1:=by simp
 rw[e1] at q
 refine⟨_,_,_,rfl,q,(HS.out.keep (ae (ae (Below.refl _ w1) _) _)),?_,Nat.le_succ_of_le hsz,FA,hsz,ae (ae HB.out _) _⟩
 exact ((Below.heap_alloc _ _ _ (by simp)).trans (heap_alloc_new w1 _))
theorem AU (w:World) (bb ss mb:Nat) (nm:ByteArray) (a:Option Addr) (c:Nat) (hB:cP w bb ss mb) (hS:bE (fun _=>False) w ss 8 []) (hM:bF w mb #[] 0) (hcs:aO w (.slice a 0 c) []) (hn:nm.size<=140737488355328)
 (h0:jD 8 [] ⟨nm.data.toList,[]⟩=0) (hA:yJ 8 [] ⟨nm.data.toList,[]⟩=[⟨nm.data.toList,[]⟩]) :
 Calls prog 104 #[.pointer (some ⟨bb,0,none⟩),.agg #[.string nm,.slice a 0 c]] w fun e w'=>∃ st a1 m1 h1 tb a2 m2 c1 hi,e=.returned (.int .i64 0)/\Dd w' st a1 m1 h1 tb a2 m2 c1 false /\
  bF w' mb #[{ key:=.string nm,val:=.pointer (some ⟨st,0,none⟩),born:=0 }] 1/\cP w' bb ss mb/\bE (fun k=>w.heap.size<=k/\k<hi) w' ss 8 [⟨nm.data.toList,[]⟩]/\w.heap.size<=hi/\hi<=st/\aq (fun k=>k=ss∨k=mb) w w':=by
 obtain⟨W0,hW0⟩:∃ W0,w.alloc (.cells #[.string nm,.slice a 0 c] 57)=W0:=⟨_,rfl⟩
 have k0:Below w.heap.size w W0:=by rw[<-hW0];exact ae Fy _
 have hx:af W0 w.heap.size 57 #[.string nm,.slice a 0 c]:=by rw[<-hW0];exact af.new _ _ _
 have hz:W0.heap.size=w.heap.size+1:=by rw[<-hW0];simp
 have hmb:mb≠ss:=by obtain⟨sv,q1,_,_⟩:=hS;exact hM.ne q1
 have HMS:=Fx hmb
 have HB0:=Fx (show cP W0 bb ss mb from af.below hB k0 (af.lt hB))
 have HS0:=Fx (hS.keep k0)
 have HM0:=Fx (show bF W0 mb #[] 0 from (k0.block mb hM.lt).trans hM)
 have HX0:=Fx hx
 have HW0:=Fx hW0
 have HK0:=Fx k0
 have HZ0:=Fx hz
 have HMlt:=Fx hM.lt
 have HAdd:=Fx (fun W (kb:Below w.heap.size w W) (q:bE (fun _=>False) W ss 8 [])=>CV W ss 8 [] nm (.slice a 0 c) [] q (by decide) (by decide) (fun f=>f) (hcs.keep kb) (by decide) hn (fun _ h=>by cases h))
 have H0:=Fx h0
 have HA:=Fx hA
 clear hB hS hM hcs k0 hx hz hmb h0 hA
 obtain⟨x,hxx⟩:∃ x,w.heap.size=x:=⟨_,rfl⟩
 go_enter func104,ntmps104
 go_wp2_with fail
 clear HW0 hW0
 have HXX:=Fx hxx
 clear hxx
 obtain⟨SS,hSS⟩:∃ SS:World->Prop,SS=fun W=>cP W bb ss mb/\af W x 57 #[.string nm,.slice a 0 c]:=⟨_,rfl⟩
 have HSC:=Fx (fun W (q:SS W)=>(by rw[hSS] at q;exact q:cP W bb ss mb/\af W x 57 #[.string nm,.slice a 0 c]))
 have HSI:=Fx (fun W (q:cP W bb ss mb/\af W x 57 #[.string nm,.slice a 0 c])=>(by rw[hSS];exact q:SS W))
 clear hSS
 have HSS:SS W0.drew:=HSI.out _ (⟨af.drew HB0.out,HXX.out ▸ HX0.out.drew⟩)
 refine wp_region_held_drew (by kernel_rfl) HSS (fun _=>?_)
 refine Held.tk 0 6 HSS ?_
 refine Held.tk 1 7 HSS ?_
 refine Held.tk 2 8 HSS ?_
 refine Held.take 3 9 (v:=?_) rfl rfl (by kernel_rfl) (by kernel_rfl) (by kernel_rfl) (fun _ _ _ _ h=>h) (by kernel_rfl) HSS ?_ ?_
 rotate_left
 ·intro u hu
  obtain⟨r1,r2⟩:=HSC.out u hu
  have x0:=(show af u bb 175 #[.pointer (some ⟨ss,0,none⟩),.int .i64 512,.map (some mb)] from r1).cell 0
  have x1:=(show af u bb 175 #[.pointer (some ⟨ss,0,none⟩),.int .i64 512,.map (some mb)] from r1).cell 1
  have x2:=(show af u bb 175 #[.pointer (some ⟨ss,0,none⟩),.int .i64 512,.map (some mb)] from r1).cell 2
  have xl:=(show af u bb 175 #[.pointer (some ⟨ss,0,none⟩),.int .i64 512,.map (some mb)] from r1).lt
  simp only[FF] at x0 x1 x2
  have y0:=(r2).cell 0
  have y1:=(r2).cell 1
  have yl:=(r2).lt
  simp only[FF] at y0 y1
  go_simp
  try with_reducible rfl
 try simp only[FG]
 refine Held.take 4 10 (v:=?_) rfl rfl (by kernel_rfl) (by kernel_rfl) (by kernel_rfl) (fun _ _ _ _ h=>h) (by kernel_rfl) HSS ?_ ?_
 rotate_left
 ·intro u hu
  obtain⟨r1,r2⟩:=HSC.out u hu
  have x0:=(show af u bb 175 #[.pointer (some ⟨ss,0,none⟩),.int .i64 512,.map (some mb)] from r1).cell 0
  have x1:=(show af u bb 175 #[.pointer (some ⟨ss,0,none⟩),.int .i64 512,.map (some mb)] from r1).cell 1
  have x2:=(show af u bb 175 #[.pointer (some ⟨ss,0,none⟩),.int .i64 512,.map (some mb)] from r1).cell 2
  have xl:=(show af u bb 175 #[.pointer (some ⟨ss,0,none⟩),.int .i64 512,.map (some mb)] from r1).lt
  simp only[FF] at x0 x1 x2
  have y0:=(r2).cell 0
  have y1:=(r2).cell 1
  have yl:=(r2).lt
  simp only[FF] at y0 y1
  go_simp
  try with_reducible rfl
 try simp only[FG]
 refine Held.one 5 rfl (by kernel_rfl) (fun K hK=>?_)
 go_simp
 refine (HAdd.out _ (ay HK0.out) (HS0.out.keep (ay Fy))).mono ?_
 rintro e w1 ⟨rfl,hs1,hm1⟩
 rw[H0.out]
 rw[HA.out] at hs1
 have hss:bb≠ss:=by
  obtain⟨sv,q1,_,_⟩:=HS0.out
  exact af.ne_ HB0.out q1 (by decide)
 have hxs:x≠ss:=by
  obtain⟨sv,q1,_,_⟩:=HS0.out
  exact af.ne_ (HXX.out ▸ HX0.out) q1 (by decide)
 have hb1:cP w1 bb ss mb:=af.mod (af.drew HB0.out) hm1 (by simp [hss])
 have hx1:af w1 x 57 #[.string nm,.slice a 0 c]:=af.mod (af.drew (HXX.out ▸ HX0.out)) hm1 (by simp [hxs])
 have hm2:bF w1 mb #[] 0:=(bF.drew HM0.out).mod hm1 (by have:=HMS.out;simp [this])
 have HB1:=Fx hb1
 have HX1:=Fx hx1
 have HS1:=Fx hs1
 have HM1:=Fx hm2
 have HD1:=Fx hm1
 clear hb1 hx1 hs1 hm2 hm1 hss hxs HSS
 have HSS:=HSI.out w1 ⟨HB1.out,HX1.out⟩
 refine hK.out _ _ HSS ?_
 clear hK K
 try simp only[FG]
 refine Held.tk 6 5 HSS ?_
 refine wpAnyH_done (by kernel_rfl) ?_ _
 clear HSS HSC HSI
 go_wp2_with fail
 obtain⟨SS,hSS⟩:∃ SS:World->Prop,SS=fun W=>cP W bb ss mb/\af W x 57 #[.string nm,.slice a 0 c]:=⟨_,rfl⟩
 have HSC:=Fx (fun W (q:SS W)=>(by rw[hSS] at q;exact q:cP W bb ss mb/\af W x 57 #[.string nm,.slice a 0 c]))
 have HSI:=Fx (fun W (q:cP W bb ss mb/\af W x 57 #[.string nm,.slice a 0 c])=>(by rw[hSS];exact q:SS W))
 clear hSS
 have HSS:SS w1.drew:=HSI.out _ (⟨af.drew HB1.out,HX1.out.drew⟩)
 refine wp_region_held_drew (by kernel_rfl) HSS (fun _=>?_)
 refine Held.tk 0 16 HSS ?_
 refine Held.tk 1 17 HSS ?_
 refine Held.tk 2 18 HSS ?_
 refine Held.take 3 19 (v:=?_) rfl rfl (by kernel_rfl) (by kernel_rfl) (by kernel_rfl) (fun _ _ _ _ h=>h) (by kernel_rfl) HSS ?_ ?_
 rotate_left
 ·intro u hu
  obtain⟨r1,r2⟩:=HSC.out u hu
  have x0:=(show af u bb 175 #[.pointer (some ⟨ss,0,none⟩),.int .i64 512,.map (some mb)] from r1).cell 0
  have x1:=(show af u bb 175 #[.pointer (some ⟨ss,0,none⟩),.int .i64 512,.map (some mb)] from r1).cell 1
  have x2:=(show af u bb 175 #[.pointer (some ⟨ss,0,none⟩),.int .i64 512,.map (some mb)] from r1).cell 2
  have xl:=(show af u bb 175 #[.pointer (some ⟨ss,0,none⟩),.int .i64 512,.map (some mb)] from r1).lt
  simp only[FF] at x0 x1 x2
  have y0:=(r2).cell 0
  have y1:=(r2).cell 1
  have yl:=(r2).lt
  simp only[FF] at y0 y1
  go_simp
  try with_reducible rfl
 try simp only[FG]
 refine Held.tk 4 20 HSS ?_
 refine Held.take 5 21 (v:=?_) rfl rfl (by kernel_rfl) (by kernel_rfl) (by kernel_rfl) (fun _ _ _ _ h=>h) (by kernel_rfl) HSS ?_ ?_
 rotate_left
 ·intro u hu
  obtain⟨r1,r2⟩:=HSC.out u hu
  have x0:=(show af u bb 175 #[.pointer (some ⟨ss,0,none⟩),.int .i64 512,.map (some mb)] from r1).cell 0
  have x1:=(show af u bb 175 #[.pointer (some ⟨ss,0,none⟩),.int .i64 512,.map (some mb)] from r1).cell 1
  have x2:=(show af u bb 175 #[.pointer (some ⟨ss,0,none⟩),.int .i64 512,.map (some mb)] from r1).cell 2
  have xl:=(show af u bb 175 #[.pointer (some ⟨ss,0,none⟩),.int .i64 512,.map (some mb)] from r1).lt
  simp only[FF] at x0 x1 x2
  have y0:=(r2).cell 0
  have y1:=(r2).cell 1
  have yl:=(r2).lt
  simp only[FF] at y0 y1
  go_simp
  try with_reducible rfl
 try simp only[FG]
 refine Held.tk 6 22 HSS ?_
 refine Held.take 7 23 (v:=?_) rfl rfl (by kernel_rfl) (by kernel_rfl) (by kernel_rfl) (fun _ _ _ _ h=>h) (by kernel_rfl) HSS ?_ ?_
 rotate_left
 ·intro u hu
  obtain⟨r1,r2⟩:=HSC.out u hu
  have x0:=(show af u bb 175 #[.pointer (some ⟨ss,0,none⟩),.int .i64 512,.map (some mb)] from r1).cell 0
  have x1:=(show af u bb 175 #[.pointer (some ⟨ss,0,none⟩),.int .i64 512,.map (some mb)] from r1).cell 1
  have x2:=(show af u bb 175 #[.pointer (some ⟨ss,0,none⟩),.int .i64 512,.map (some mb)] from r1).cell 2
  have xl:=(show af u bb 175 #[.pointer (some ⟨ss,0,none⟩),.int .i64 512,.map (some mb)] from r1).lt
  simp only[FF] at x0 x1 x2
  have y0:=(r2).cell 0
  have y1:=(r2).cell 1
  have yl:=(r2).lt
  simp only[FF] at y0 y1
  go_simp
  try with_reducible rfl
 try simp only[FG]
 refine Held.tk 8 24 HSS ?_
 refine Held.tk 9 25 HSS ?_
 refine Held.tk 10 26 HSS ?_
 refine Held.tk 11 27 HSS ?_
 refine Held.take 12 28 (v:=?_) rfl rfl (by kernel_rfl) (by kernel_rfl) (by kernel_rfl) (fun _ _ _ _ h=>h) (by kernel_rfl) HSS ?_ ?_
 rotate_left
 ·intro u hu
  obtain⟨r1,r2⟩:=HSC.out u hu
  have x0:=(show af u bb 175 #[.pointer (some ⟨ss,0,none⟩),.int .i64 512,.map (some mb)] from r1).cell 0
  have x1:=(show af u bb 175 #[.pointer (some ⟨ss,0,none⟩),.int .i64 512,.map (some mb)] from r1).cell 1
  have x2:=(show af u bb 175 #[.pointer (some ⟨ss,0,none⟩),.int .i64 512,.map (some mb)] from r1).cell 2
  have xl:=(show af u bb 175 #[.pointer (some ⟨ss,0,none⟩),.int .i64 512,.map (some mb)] from r1).lt
  simp only[FF] at x0 x1 x2
  have y0:=(r2).cell 0
  have y1:=(r2).cell 1
  have yl:=(r2).lt
  simp only[FF] at y0 y1
  go_simp
  try with_reducible rfl
 try simp only[FG]
 refine Held.one 13 rfl (by kernel_rfl) (fun K hK=>?_)
 go_simp
 refine (An _).mono ?_
 rintro e w2 ⟨a1,m1,h1,tb,a2,m2,c1,rfl,hE,hb2⟩
 obtain⟨st,hst⟩:∃ st,w1.drew.heap.size=st:=⟨_,rfl⟩
 rw[hst] at hE hb2 ⊢
 have hb3:Below w1.heap.size w1 w2:=by
  have q:w1.heap.size=st:=hst
  rw[q]
  exact⟨hb2.os,hb2.tape,hb2.output,hb2.size,hb2.block⟩
 have ls:ss<st:=by
  have:=(HS1.out).lt
  rw[<-hst];exact this
 have hu:=@EZ prog w2 173 9 183 mb 0 nm (.pointer (some ⟨st,0,none⟩)) (by kernel_rfl) (by kernel_rfl) ((hb2.block mb (hst ▸ HM1.out.lt)).trans HM1.out)
 have HM2:=Fx (show bF w2 mb #[] 0 from (hb2.block mb (hst ▸ HM1.out.lt)).trans HM1.out)
 have HB2:=Fx (show cP w2 bb ss mb from af.below (af.drew HB1.out) hb2 (hst ▸ af.lt HB1.out))
 have HX2:=Fx (HX1.out.drew.below hb2 (hst ▸ HX1.out.lt))
 have HS2:=Fx (bE.mod (HS1.out.mono (Q':=fun k=>x<=k/\k<st) (fun k hk q=>⟨by
  have z:=HZ0.out
  have z2:=HXX.out
  rcases q with q | q
  ·exact q.elim
  ·have:W0.heap.size<=k:=q
   omega,by rw[<-hst];exact hk⟩)) (w':=w2) (aq.ofBelow (F:=fun _=>False) hb3) (fun f=>f) (fun _ _ f=>f))
 have HD2:=Fx (HD1.out.trans (aq.ofBelow (F:=fun _=>False) hb3) (fun _ _ f=>f.elim))
 have HE2:=Fx hE
 have HST:=Fx hst
 clear hE hb2 hb3 hst ls HSS
 have HSS:=HSI.out w2 ⟨HB2.out,HX2.out⟩
 refine hK.out _ _ HSS ?_
 clear hK K
 try simp only[FG]
 refine Held.tk 14 15 HSS ?_
 refine Held.tk 15 30 HSS ?_
 refine Held.tk 16 31 HSS ?_
 refine Held.one 17 rfl (by kernel_rfl) (fun K hK=>?_)
 go_simp
 obtain⟨w3,hw3⟩:∃ w3,dq w2 mb #[{ key:=.string nm,val:=.pointer (some ⟨st,0,none⟩),born:=0 }] 1=w3:=⟨_,rfl⟩
 have hd:aq (fun k=>k=mb) w2 w3:=hw3 ▸ dq.modw w2 mb _ 1
 have lmb:mb<st:=by
  have:=HM1.out.lt
  rw[<-HST.out];exact this
 have hm3:bF w3 mb #[{ key:=.string nm,val:=.pointer (some ⟨st,0,none⟩),born:=0 }] 1:=hw3 ▸ dq.at HM2.out
 rw[hw3]
 have nbb:bb≠mb:=(HM2.out.ne HB2.out).symm
 have nxx:x≠mb:=(HM2.out.ne HX2.out).symm
 have HB3:=Fx (show cP w3 bb ss mb from af.mod HB2.out hd (by simpa using nbb))
 have HX3:=Fx (HX2.out.mod hd (by simpa using nxx))
 have HE3:=Fx (HE2.out.mod hd (fun k hk e=>by omega))
 have HM3:=Fx hm3
 have lxm:mb<x:=by
  have:=HMlt.out
  rwa [HXX.out] at this
 have HS3:=Fx (HS2.out.mod hd (fun e=>HMS.out e.symm) (fun k hk e=>by omega))
 have HD3:=Fx ((((aq.refl (fun k=>k=ss∨k=mb) _).trans HD2.out (fun k _ e=>e.elim Or.inl False.elim)).trans hd (fun k _ e=>Or.inr e)))
 have LST:=Fx (show x<=st by
  have z1:=HX1.out.lt
  have z2:w1.heap.size=st:=HST.out
  omega)
 clear hd lmb hm3 nbb nxx hw3 lxm hu HSS
 have HSS:=HSI.out w3 ⟨HB3.out,HX3.out⟩
 refine hK.out _ _ HSS ?_
 clear hK K
 try simp only[FG]
 refine wpAnyH_done (by kernel_rfl) ?_ _
 clear HSS HSC HSI
 go_wp2_with fail
 go_ret
 refine⟨st,a1,m1,h1,tb,a2,m2,c1,st,rfl,HE3.out,HM3.out,HB3.out,?_,?_,FA,(aq.ofBelow (F:=fun k=>k=ss∨k=mb) HK0.out).drew.trans HD3.out (fun k _ e=>e)⟩
 ·rw[HXX.out];exact HS3.out
 ·rw[HXX.out];exact LST.out
