/- base.Base.run, Apply of one addition of an empty row to a base with one empty. -/
import Derived.Test.YtgopfpjinohncaaGreatDoorStaZF
import Derived.Test.YtgopfpjinohncaaGreatDoorDwF
set_option maxHeartbeats 16000000
set_option maxRecDepth 100000
set_option linter.unusedVariables false
namespace Go.Proofs.YtgopfpjinohncaaGreatDoor
open Go.Proofs.Tryz
open Go.RowKit
open Go.ChangeMaps (setBlock)
theorem setBlock.modw (w:World) (r:Nat) (o:Obj):aq (fun k=>k=r) w (setBlock w r o) :=
 ⟨rfl,rfl,rfl,by unfold setBlock;simp,fun i hi hn=>by
  unfold setBlock
  show (w.heap.setIfInBounds r _)[i]? = _
  rw[Array.getElem?_setIfInBounds_ne (fun e=>hn e.symm)]⟩
theorem setBlock.at_ {w:World} {r:Nat} (o:Obj) (h:r<w.heap.size):(setBlock w r o).heap[r]? = some o:=by
 unfold setBlock
 show (w.heap.setIfInBounds r _)[r]? = _
 rw[Array.getElem?_setIfInBounds_self_of_lt h]
theorem Bx (w:World) (p5 p8 p12 st a1 m1 h1 a2 m2 c1:Nat) (u:Value) (md:FrameMode) (hu:u.oneCell'=true) (h5:w.cell? ⟨p5,0,none⟩=some (.bool true)) (h8:w.cell? ⟨p8,0,none⟩=some (.int .i64 0)) (h12:w.cell? ⟨p12,0,none⟩=some (.pointer (some ⟨st,0,none⟩))) (hs:af w st 326 #[.int .i64 0,.int .i64 512,.int .i64 1,.slice none 0 0,.pointer (some ⟨a1,0,none⟩),.map (some m1),.pointer (some ⟨h1,0,none⟩),.slice none 0 0,.pointer (some ⟨a2,0,none⟩),.map (some m2),.pointer (some ⟨c1,0,none⟩),.bool true,u]) :
 CallsD prog 239 #[.pointer (some ⟨p5,0,none⟩),.pointer (some ⟨p8,0,none⟩),.pointer (some ⟨p12,0,none⟩)] md w fun e md' w'=>md'=md/\(e=.returned (.tuple #[])/\af w' st 326 #[.int .i64 0,.int .i64 512,.int .i64 1,.slice none 0 0,.pointer (some ⟨a1,0,none⟩),.map (some m1),.pointer (some ⟨h1,0,none⟩),.slice none 0 0,.pointer (some ⟨a2,0,none⟩),.map (some m2),.pointer (some ⟨c1,0,none⟩),.bool false,.slice none 0 0]/\aq (fun k=>k=st) w w'):=by
 have H:=Fx (Dz w st a1 m1 h1 a2 m2 c1 u hu hs)
 have l5:=World.block_lt_of_cell? _ _ h5
 have l8:=World.block_lt_of_cell? _ _ h8
 have l12:=World.block_lt_of_cell? _ _ h12
 simp only at l5 l8 l12
 clear hs
 go_enter_d func239,ntmps239
 go_wp2_with fail
 refine H.out.mono ?_
 rintro e w1 ⟨rfl,hb,hd⟩
 have HB:=Fx hb
 have HD:=Fx hd
 clear hb hd h5 h8 h12 l5 l8 l12
 go_wp2_with fail
 go_end0
 exact⟨rfl,HB.out,HD.out⟩
structure CT (w0 w:World) (B bb ss mb st a1 m1 h1 tb a2 m2 c1 g cap p:Nat) (nm:ByteArray) (ra:Option Addr) (rc:Nat) (mk:Bool):Prop where
 e:sV w st a1 m1 h1 tb a2 m2 c1 mk 0
 b:af w bb 175 #[.pointer (some ⟨ss,0,none⟩),.int .i64 512,.map (some mb)]
 m:bF w mb #[{ key:=.string nm,val:=.pointer (some ⟨st,0,none⟩),born:=0 }] 1
 p5:af w p 4 #[.bool true]
 p8:af w (p+1) 29 #[.int .i64 0]
 o:w.ownsRow B 68 3 (.slice (some ⟨g,0,none⟩) 1 cap) 1 [.bool true,.string nm,.slice ra 0 rc]
 d:aq (fun k=>k=st∨k=a1∨k=m1∨k=h1∨k=tb∨k=c1) w0 w
theorem CT.mod {w0 w w':World} {B bb ss mb st a1 m1 h1 tb a2 m2 c1 g cap p:Nat} {nm:ByteArray} {ra:Option Addr} {rc:Nat} {mk:Bool} {F:Nat->Prop} (h:CT w0 w B bb ss mb st a1 m1 h1 tb a2 m2 c1 g cap p nm ra rc mk) (hm:aq F w w') (hF:∀ k,k<w.heap.size->F k->(∀ t cs,¬ af w k t cs)/\k≠m1/\k≠mb/\w0.heap.size<=k):CT w0 w' B bb ss mb st a1 m1 h1 tb a2 m2 c1 g cap p nm ra rc mk:=by
 have hb:∀ {k:Nat} {t:TypeId} {cs:Array Value},af w k t cs->af w' k t cs:=fun q=>q.mod hm (fun f=>(hF _ q.lt f).1 _ _ q)
 refine⟨⟨hb h.e.s,hb h.e.a,h.e.m.mod hm (fun f=>(hF _ h.e.m.lt f).2.1 rfl),hb h.e.h,hb h.e.t,hb h.e.c⟩,hb h.b,h.m.mod hm (fun f=>(hF _ h.m.lt f).2.2.1 rfl),hb h.p5,hb h.p8,hm.ownsRow h.o (fun k hk f=>?_),h.d.trans hm (fun k hk f=>?_)⟩
 ·obtain⟨cur,hcur⟩:=kU h.o hk
  exact (hF _ hcur.lt f).1 _ _ hcur
 ·have:=(hF k (Nat.lt_of_lt_of_le hk h.d.size) f).2.2.2
  omega
theorem CT.keep {w0 w w':World} {B bb ss mb st a1 m1 h1 tb a2 m2 c1 g cap p:Nat} {nm:ByteArray} {ra:Option Addr} {rc:Nat} {mk:Bool} (h:CT w0 w B bb ss mb st a1 m1 h1 tb a2 m2 c1 g cap p nm ra rc mk) (hb:Below w.heap.size w w'):CT w0 w' B bb ss mb st a1 m1 h1 tb a2 m2 c1 g cap p nm ra rc mk :=
 h.mod (aq.ofBelow (F:=fun _=>False) hb) (fun _ _ f=>f.elim)
theorem Tryz.infoChg0:(prog.info? 68).map (fun i=>(i.zero,i.size,i.bytes))=some (some (.agg #[.bool false,.string ⟨#[]⟩,.slice none 0 0]),3,48):=by kernel_rfl
theorem Fe {Q:Nat->Prop} (w:World) (B bb ss mb st a1 m1 h1 tb a2 m2 c1:Nat) (nm:ByteArray) (bv:Value) (ra:Option Addr) (rc:Nat) (hrc:rc<=maxLen) (hB:cP w bb ss mb) (hS:bE Q w ss 8 [⟨nm.data.toList,[]⟩])
 (hM:bF w mb #[{ key:=.string nm,val:=.pointer (some ⟨st,0,none⟩),born:=0 }] 1) (hE:sV w st a1 m1 h1 tb a2 m2 c1 false 0) (hb:w.ownsRow B 68 3 bv 1 [.bool true,.string nm,.slice ra 0 rc]) (hck:nG [⟨true,nm.data.toList,[]⟩] [⟨nm.data.toList,[]⟩]=(0,0)) :
 Calls prog 182 #[.pointer (some ⟨bb,0,none⟩),bv,.bool true] w fun e w'=>∃ v,e=.returned (.tuple #[v,.int .i64 0,.int .i64 0])/\(∃ ka kc,kc<=maxLen/\af w' st 326 #[.int .i64 0,.int .i64 512,.int .i64 1,.slice none 0 0,.pointer (some ⟨a1,0,none⟩),.map (some m1),.pointer (some ⟨h1,0,none⟩),.slice none 0 0,.pointer (some ⟨a2,0,none⟩),.map (some m2),.pointer (some ⟨c1,0,none⟩),.bool false,.slice none 0 0]/\bC w.heap.size w' a1 m1 c1 (.slice ka 0 kc))/\aq (fun k=>k=st∨k=a1∨k=m1∨k=h1∨k=tb∨k=c1) w w':=by
 obtain⟨ic,hic,hf0,hf1,hf2⟩:=info_parts Tryz.infoChg0
 have hmf:∀ (fn:Fn) (first cap:Array Value) (w:World),(Instr.makeFunc fn first cap).run prog w=.ok (.func fn first cap) w:=fun _ _ _ _=>rfl
 have hnm:(⟨nm.data.toList.toArray⟩:ByteArray)=nm:=by simp
 have hEM:∀ W,aq (fun _=>False) w W->sV W st a1 m1 h1 tb a2 m2 c1 false 0:=fun W hm=>hE.mod hm (fun _ _ f=>f)
 obtain⟨p,hp⟩:∃ p,w.heap.size=p:=⟨_,rfl⟩
 obtain⟨W1,hW1⟩:∃ W1,(w.alloc (.cells #[.bool true] 4)).alloc (.cells #[.int .i64 0] 29)=W1:=⟨_,rfl⟩
 have b1:Below w.heap.size w W1:=by rw[<-hW1];exact ae (ae Fy _) _
 have P5:af W1 p 4 #[.bool true]:=by rw[<-hW1,<-hp];exact (af.new _ _ _).alloc _
 have P8:af W1 (p+1) 29 #[.int .i64 0]:=by
  rw[<-hW1,<-hp]
  have:=af.new (w.alloc (.cells #[.bool true] 4)) 29 #[.int .i64 0]
  rwa [World.size_alloc] at this
 have HE1:=Fx (hE.keep b1)
 have HB1:=Fx (show af W1 bb 175 #[.pointer (some ⟨ss,0,none⟩),.int .i64 512,.map (some mb)] from af.below hB b1 (af.lt hB))
 have HM1:=Fx ((hM.mod (aq.ofBelow (F:=fun _=>False) b1) (fun f=>f)))
 have HO1:=Fx ((aq.ofBelow (F:=fun _=>False) b1).ownsRow hb (fun _ _ f=>f))
 have HP5:=Fx P5
 have HP8:=Fx P8
 have HD1:=Fx b1
 have HA:=Fx (nE W1 ss 8 _ (hS.keep b1))
 have x0:=HB1.out.cell 0
 have xl:=HB1.out.lt
 simp only[List.getElem?_toArray,List.getElem?_cons_zero] at x0
 obtain⟨g,cap,hbv,hcap,hgl⟩:∃ g cap,bv=.slice (some ⟨g,0,none⟩) 1 cap/\1<=cap/\g<w.heap.size:=by
  rcases hb.2 with ⟨_,e⟩ | ⟨g,cap,cur,rfl,_,hh,q,_⟩
  ·cases e
  ·exact⟨g,cap,rfl,q,af.lt (t:=68) hh⟩
 subst hbv
 clear b1 P5 P8 hE hEM hB hM hS hb
 go_enter_defers func182,ntmps182
 go_wp2_with fail
 refine HA.out.mono ?_
 rintro e w2 ⟨a,cp,rfl,hrel,hb2⟩
 have hat:=cL.at hrel (by simp) (by simp)
 have ho2:=(aq.ofBelow (F:=fun _=>False) hb2).ownsRow HO1.out (fun _ _ f=>f)
 have hch:cU w2 (.slice (some ⟨g,0,none⟩) 1 cap) [⟨true,nm.data.toList,[]⟩]:=⟨[[.bool true,.string nm,.slice ra 0 rc]],aj.ofOwn (by simpa using ho2) (by simp) (by simp) (by simp),⟨⟨.slice ra 0 rc,by simp,dG _ _ _ _ hrc,by simp⟩,trivial⟩⟩
 have hck2:=wt w2 _ _ _ _ hch hat
 rw[hck] at hck2
 have HCK:=Fx hck2
 have HR2:Hid (CT w w2 B bb ss mb st a1 m1 h1 tb a2 m2 c1 g cap p nm ra rc false):=Fx (CT.keep ⟨HE1.out,HB1.out,HM1.out,HP5.out,HP8.out,HO1.out,aq.ofBelow HD1.out⟩ hb2)
 clear hck2 hch hat hrel hb2 HA HE1 HB1 HM1 HO1 HP5 HP8 HD1 x0 xl ho2
 go_wp2_with fail
 refine HCK.out.mono ?_
 rintro e w3 ⟨rfl,hb3⟩
 have HR3:=Fx (HR2.out.keep hb3)
 have y2:=HR3.out.b.cell 2
 have yl:=HR3.out.b.lt
 simp only[FF] at y2
 obtain⟨r,hr⟩:∃ r,w3.heap.size=r:=⟨_,rfl⟩
 have hrg:=run_range_map (P:=prog) w3 173 9 183 mb #[{ key:=.string nm,val:=.pointer (some ⟨st,0,none⟩),born:=0 }] 1 (by kernel_rfl) HR3.out.m
 rw[hr] at hrg
 have HR4:=Fx (HR3.out.keep (ae Fy (.mapIter (some mb) 1 #[] 1)))
 have hr4:(w3.alloc (.mapIter (some mb) 1 #[] 1)).heap[r]? = some (.mapIter (some mb) 1 #[] 1):=by rw[<-hr];exact heap_alloc_new w3 _
 have LR:Hid (w.heap.size<=r):=Fx (by rw[<-hr];exact HR3.out.d.size)
 clear hb3 HCK HR2
 go_wp2_with fail
 clear y2 yl hrg
 obtain⟨W4,hW4⟩:∃ W4,w3.alloc (.mapIter (some mb) 1 #[] 1)=W4:=⟨_,rfl⟩
 rw[hW4] at HR4 hr4 ⊢
 have hz4:W4.heap.size=r+1:=by rw[<-hW4,<-hr];simp
 clear hW4 hr HR3
 refine wp_loop_rounds 2 ?_
 rw[rounds_succ]
 rcases run_next_at (P:=prog) W4 0 r mb 1 1 #[] #[{ key:=.string nm,val:=.pointer (some ⟨st,0,none⟩),born:=0 }] 1 hr4 HR4.out.m (by simp) FA with ⟨h0,_⟩ | ⟨e,he,w5,hw5,hrun⟩
 ·simp [leftOf] at h0
 have he':e = { key:=.string nm,val:=.pointer (some ⟨st,0,none⟩),born:=0 }:=by simpa [leftOf] using he
 subst he'
 have hnx:∀ ty,(Instr.next (.pointer (some ⟨r,0,none⟩)) false ty).run prog W4=_:=fun _=>hrun
 have h45:aq (fun k=>k=r) W4 (setBlock w5 r (.mapIter (some mb) 1 (#[].push 0) 1)):=by
  rcases hw5 with e | e
  ·rw[e];exact setBlock.modw _ _ _
  ·rw[e];exact (setBlock.modw _ _ _).undrew
 have hr6:(setBlock w5 r (.mapIter (some mb) 1 (#[].push 0) 1)).heap[r]? = some (.mapIter (some mb) 1 (#[].push 0) 1):=setBlock.at_ _ (by rcases hw5 with e | e<;>rw[e]<;>simp [hz4])
 have hsz6:=h45.size
 obtain⟨W6,hW6⟩:∃ W6,setBlock w5 r (.mapIter (some mb) 1 (#[].push 0) 1)=W6:=⟨_,rfl⟩
 have hz6:W6.heap.size=r+1:=by
  rw[<-hW6,<-hz4]
  rcases hw5 with e | e<;>rw[e]<;>simp [setBlock]
 simp only at hnx
 rw[hW6] at hnx h45 hr6
 have hF6:∀ k,k<W4.heap.size->k=r->(∀ t cs,¬ af W4 k t cs)/\k≠m1/\k≠mb/\w.heap.size<=k:=by
  rintro k hk rfl
  refine⟨fun t cs q=>?_,?_,?_,LR.out⟩
  ·unfold af at q
   rw[hr4] at q
   cases q
  ·intro e
   have:=HR4.out.e.m
   unfold bF at this
   rw[<-e,hr4] at this
   cases this
  ·intro e
   have:=HR4.out.m
   unfold bF at this
   rw[<-e,hr4] at this
   cases this
 have HR6:=Fx (HR4.out.mod h45 hF6)
 have hen:=run_entry_at (P:=prog) W6 r mb 1 #[] #[{ key:=.string nm,val:=.pointer (some ⟨st,0,none⟩),born:=0 }] 1 { key:=.string nm,val:=.pointer (some ⟨st,0,none⟩),born:=0 } hr6 HR6.out.m (by simp) (by simp)
 have b7:Below W6.heap.size W6 (W6.alloc (.cells #[.pointer (some ⟨st,0,none⟩)] 183)):=ae Fy _
 have HR7:=Fx (HR6.out.keep b7)
 have hP:af (W6.alloc (.cells #[.pointer (some ⟨st,0,none⟩)] 183)) (r+1) 183 #[.pointer (some ⟨st,0,none⟩)]:=hz6 ▸ af.new _ _ _
 have HP7:=Fx hP
 have HI7:=Fx ((b7.block r (by omega)).trans hr6)
 have HBG:=Fx (DP _ st a1 m1 h1 tb a2 m2 c1 0 HR7.out.e)
 clear h45 hF6 hr4 hr6 hsz6 hrun hw5 he HR4 HR6 b7 hP hW6
 go_wp2_with fail
 refine HBG.out.mono ?_
 rintro e w8 ⟨rfl,hE8,hd8⟩
 have HR8:Hid (CT w w8 B bb ss mb st a1 m1 h1 tb a2 m2 c1 g cap p nm ra rc true):=Fx ⟨hE8,HR7.out.b.mod hd8 (HR7.out.b.ne_ HR7.out.e.s (by decide)),HR7.out.m.mod hd8 (HR7.out.m.ne HR7.out.e.s),HR7.out.p5.mod hd8 (HR7.out.p5.ne_ HR7.out.e.s (by decide)),HR7.out.p8.mod hd8 (HR7.out.p8.ne_ HR7.out.e.s (by decide)),hd8.ownsRow HR7.out.o (fun k hk e=>aE HR7.out.o HR7.out.e.s (by decide) (by rw[hk,e])),HR7.out.d.trans hd8 (fun _ _ e=>.inl e)⟩
 have HP8:=Fx (HP7.out.mod hd8 (HP7.out.ne_ HR7.out.e.s (by decide)))
 have hI8:w8.heap[r]? = some (.mapIter (some mb) 1 (#[].push 0) 1):=(hd8.block r (by simp;omega) (fun e=>by
  have q:=HR7.out.e.s
  have q2:=HI7.out
  unfold af at q
  have q3:∀ W:World,W.heap[r]? = W.heap[st]? := fun W=>by rw[e]
  rw[q3,q] at q2
  cases q2)).trans HI7.out
 rcases run_next_at (P:=prog) w8 0 r mb 1 1 (#[].push 0) #[{ key:=.string nm,val:=.pointer (some ⟨st,0,none⟩),born:=0 }] 1 hI8 HR8.out.m (by simp) FA with ⟨_,hrun⟩ | ⟨e,he,_⟩
 rotate_left
 ·simp [leftOf] at he
 have hnx8:∀ ty,(Instr.next (.pointer (some ⟨r,0,none⟩)) false ty).run prog w8=_:=fun _=>hrun
 clear hE8 hd8 hI8 hrun hnx hen HR7 HP7 HI7 HBG hz6 hz4 W4 W6 w5
 go_wp2_with fail
 rw[rounds_succ]
 go_wp2_with fail
 clear hnx8
 obtain⟨x,hx⟩:∃ x,w8.heap.size=x:=⟨_,rfl⟩
 have b9:Below w8.heap.size w8 (w8.alloc (.cells #[.bool true,.string nm,.slice ra 0 rc] 68)):=ae Fy _
 have hX:af (w8.alloc (.cells #[.bool true,.string nm,.slice ra 0 rc] 68)) x 68 #[.bool true,.string nm,.slice ra 0 rc]:=hx ▸ af.new _ _ _
 refine wp_loop_rounds 2 ?_
 rw[rounds_succ]
 have k0:=HR8.out.o.cellAt 0 (by simp)
 have k1:=HR8.out.o.cellAt 1 (by simp)
 have k2:=HR8.out.o.cellAt 2 (by simp)
 have kl:=World.block_lt_of_cell? _ _ k0
 simp only[List.getElem?_cons_zero,List.getElem?_cons_succ] at k0 k1 k2 kl
 go_upto_region 12 with fail
 obtain⟨W9,hW9⟩:∃ W9,w8.alloc (.cells #[.bool true,.string nm,.slice ra 0 rc] 68)=W9:=⟨_,rfl⟩
 rw[hW9] at b9 hX ⊢
 have HR9:=Fx (HR8.out.keep b9)
 have HX9:=Fx hX
 have HP9:=Fx (HP8.out.below b9 HP8.out.lt)
 have hlk:=Ag (P:=prog) (w:=W9.drew) 173 9 183 mb 1 0 nm (.pointer (some ⟨st,0,none⟩)) (by kernel_rfl) (by kernel_rfl) HR9.out.m.drew
 clear b9 hX hW9 hx k0 k1 k2 kl HR8 HP8
 obtain⟨SS,hSS⟩:∃ SS:World->Prop,SS=fun W=>af W bb 175 #[.pointer (some ⟨ss,0,none⟩),.int .i64 512,.map (some mb)]/\af W x 68 #[.bool true,.string nm,.slice ra 0 rc]:=⟨_,rfl⟩
 have HSC:Hid (∀ W,SS W->W.cell? ⟨bb,2,none⟩=some (.map (some mb))/\W.cell? ⟨x,1,none⟩=some (.string nm)/\bb<W.heap.size/\x<W.heap.size):=Fx (fun W q=>by
  rw[hSS] at q
  obtain⟨r0,r1⟩:=q
  exact⟨(r0.cell 2).trans rfl,(r1.cell 1).trans rfl,r0.lt,r1.lt⟩)
 have HSI:Hid (∀ W,af W bb 175 #[.pointer (some ⟨ss,0,none⟩),.int .i64 512,.map (some mb)]/\af W x 68 #[.bool true,.string nm,.slice ra 0 rc]->SS W):=Fx (fun W q=>by rw[hSS];exact q)
 clear hSS
 have HSS:SS W9.drew:=HSI.out _ (⟨HR9.out.b.drew,HX9.out.drew⟩)
 refine lT ?_
 refine wp_region_held_drew (by kernel_rfl) HSS (fun _=>?_)
 refine Held.tk 0 52 HSS ?_
 refine Held.tk 1 53 HSS ?_
 refine Held.tk 2 54 HSS ?_
 refine Held.tk 3 55 HSS ?_
 refine Held.on 4 (fun K hK=>?_)
 go_simp
 refine hK.out _ _ HSS ?_
 clear hK K
 try simp only[FG]
 refine Held.tk 5 57 HSS ?_
 refine Held.on 6 (fun K hK=>?_)
 go_simp
 refine hK.out _ _ HSS ?_
 clear hK K
 try simp only[FG]
 refine Held.tk 7 15 HSS ?_
 refine wpAnyH_done (by kernel_rfl) ?_ _
 clear HSS HSC HSI hlk
 simp only[BO]
 have HR10:=Fx (HR9.out.keep (ay Fy))
 have HX10:=Fx HX9.out.drew
 have HP10:=Fx HP9.out.drew
 obtain⟨w10,hw10⟩:∃ w10,W9.drew=w10:=⟨_,rfl⟩
 rw[hw10] at HR10 HX10 HP10 ⊢
 clear hw10 HR9 HX9 HP9
 have z0:=HX10.out.cell 0
 have z2:=HX10.out.cell 2
 have zl:=HX10.out.lt
 simp only[FF] at z0 z2
 have HPT:=Fx (Fb w10 st a1 m1 h1 tb a2 m2 c1 ra rc hrc HR10.out.e)
 go_wp2_with fail
 refine HPT.out.mono ?_
 rintro e w11 ⟨rfl,u,ka,kc,hu,hkc,hS11,hR11,hd11⟩
 have hF:∀ {k:Nat} {t:TypeId} {cs:Array Value},af w10 k t cs->t≠326->t≠394->t≠397->t≠428->t≠377->af w11 k t cs:=fun q n1 n2 n3 n4 n5=>q.mod hd11 (by
  rintro (e | e | e | e | e | e)
  ·exact q.ne_ HR10.out.e.s n1 e
  ·exact q.ne_ HR10.out.e.a n2 e
  ·exact HR10.out.e.m.ne q e.symm
  ·exact q.ne_ HR10.out.e.h n3 e
  ·exact q.ne_ HR10.out.e.t n4 e
  ·exact q.ne_ HR10.out.e.c n5 e)
 have HX11:=Fx (hF HX10.out (by decide) (by decide) (by decide) (by decide) (by decide))
 have HP11:=Fx (hF HP10.out (by decide) (by decide) (by decide) (by decide) (by decide))
 have HP5:=Fx (hF HR10.out.p5 (by decide) (by decide) (by decide) (by decide) (by decide))
 have HP8':=Fx (hF HR10.out.p8 (by decide) (by decide) (by decide) (by decide) (by decide))
 have HS11:=Fx hS11
 have HR11:=Fx (show bC w.heap.size w11 a1 m1 c1 (.slice ka 0 kc) from hR11.low HR10.out.d.size)
 have HD11:=Fx (HR10.out.d.trans hd11 (fun _ _ e=>e))
 clear hS11 hR11 hd11 hF z0 z2 zl HPT HR10 HX10 HP10
 go_upto_region 20 with fail
 obtain⟨SS,hSS⟩:∃ SS:World->Prop,SS=fun W=>af W x 68 #[.bool true,.string nm,.slice ra 0 rc]:=⟨_,rfl⟩
 have HSC:Hid (∀ W,SS W->W.cell? ⟨x,0,none⟩=some (.bool true)/\W.cell? ⟨x,1,none⟩=some (.string nm)/\W.cell? ⟨x,2,none⟩=some (.slice ra 0 rc)/\x<W.heap.size):=Fx (fun W q=>by
  rw[hSS] at q
  have r0:=q
  exact⟨(r0.cell 0).trans rfl,(r0.cell 1).trans rfl,(r0.cell 2).trans rfl,r0.lt⟩)
 have HSI:Hid (∀ W,af W x 68 #[.bool true,.string nm,.slice ra 0 rc]->SS W):=Fx (fun W q=>by rw[hSS];exact q)
 clear hSS
 have HSS:SS w11.drew:=HSI.out _ (HX11.out.drew)
 refine lT ?_
 refine wp_region_held_drew (by kernel_rfl) HSS (fun _=>?_)
 refine Held.tk 0 76 HSS ?_
 refine Held.tk 1 77 HSS ?_
 refine Held.tk 2 78 HSS ?_
 refine Held.tk 3 79 HSS ?_
 refine Held.tk 4 80 HSS ?_
 refine Held.on 5 (fun K hK=>?_)
 go_simp
 refine hK.out _ _ HSS ?_
 clear hK K
 try simp only[FG]
 refine Held.on 6 (fun K hK=>?_)
 have q:=HSC.out _ HSS
 repeat (obtain⟨_,q⟩:=q)
 go_simp
 refine hK.out _ _ HSS ?_
 clear hK K
 clear q
 try simp only[FG]
 refine Held.on 7 (fun K hK=>?_)
 go_simp
 refine (iU w11.drew (.slice ra 0 rc) [] (dG _ ra rc 3 hrc) (by simp) (by simp) (by simp)).mono ?_
 rintro e w12 ⟨v12,rfl,ho12,hb12⟩
 obtain⟨va,vc,rfl⟩:=aB ho12
 simp only[List.length_nil]
 have H12:=Fx (dZ (ay (Below.refl _ w11)) hb12)
 clear HSS
 have HSS:=HSI.out w12 (HX11.out.below H12.out HX11.out.lt)
 refine hK.out _ _ HSS ?_
 clear hK K ho12 hb12
 try simp only[FG]
 refine Held.on 8 (fun K hK=>?_)
 go_simp
 refine hK.out _ _ HSS ?_
 clear hK K
 try simp only[FG]
 refine Held.on 9 (fun K hK=>?_)
 go_simp
 have hn13:=World.news_of_block (af.new w12 68 #[.bool true,.string nm,.slice va 0 vc])
 have b13:Below w12.heap.size w12 (w12.alloc (.cells #[.bool true,.string nm,.slice va 0 vc] 68)):=ae Fy _
 obtain⟨w13,hw13⟩:∃ w13,w12.alloc (.cells #[.bool true,.string nm,.slice va 0 vc] 68)=w13:=⟨_,rfl⟩
 rw[hw13] at hn13 b13 ⊢
 have HN13:=Fx hn13
 have H13:=Fx (dZ H12.out b13)
 clear HSS
 have HSS:=HSI.out w13 (HX11.out.below H13.out HX11.out.lt)
 refine hK.out _ _ HSS ?_
 clear hK K hn13 b13 hw13 H12
 try simp only[FG]
 refine Held.on 10 (fun K hK=>?_)
 refine step_append_lies _ rfl (.tmp 76) (.tmp 85) 53 rfl w11.heap.size 68 ic (.agg #[.bool false,.string ⟨#[]⟩,.slice none 0 0]) 3 48 underlying53 hic hf0 hf1 hf2 rfl (by decide) (.slice none 0 0) 0 [] rfl (World.ownsRow_nil _ _ _ _) ⟨_,0,none⟩ 1 1 [.bool true,.string nm,.slice va 0 vc] rfl rfl HN13.out (by simp [Value.oneCell']) (by decide) (by unfold maxLen;omega) (by omega) H13.out.size _ rfl ?_
 intro g5 cap5 w14 hown5 hgrow5 hat5 hlt5
 have b14:Below w13.heap.size w13 w14:=(Below.refl _ w13).grown hgrow5 FA (fun q hq=>by cases hq)
 have H14:=Fx (dZ H13.out b14)
 clear HSS
 have HSS:=HSI.out w14 (HX11.out.below H14.out HX11.out.lt)
 refine hK.out _ _ HSS ?_
 clear hK K hown5 hgrow5 hat5 hlt5 b14 H13 HN13
 simp only[Act.put,List.getElem_toArray,List.getElem_cons_succ,List.getElem_cons_zero,List.setIfInBounds_toArray,List.set_cons_succ,List.set_cons_zero]
 try simp only[FG]
 refine Held.tk 11 6 HSS ?_
 refine wpAnyH_done (by kernel_rfl) ?_ _
 clear HSS HSC HSI
 simp only[BO]
 have hp8:=HP8'.out.below H14.out HP8'.out.lt
 have hp5:=HP5.out.below H14.out HP5.out.lt
 have hp12:=HP11.out.below H14.out HP11.out.lt
 have hs14:=HS11.out.below H14.out HS11.out.lt
 have c8:=hp8.cell 0
 have f8:=hp8.frozen 0
 have l8:=hp8.lt
 simp only[List.getElem?_toArray,List.getElem?_cons_zero] at c8
 have A8:=Fx hp8
 have A5:=Fx hp5
 have A12:=Fx hp12
 have AS:=Fx hs14
 clear hp8 hp5 hp12 hs14
 go_wp2_with fail
 rw[rounds_succ]
 go_wp2_with fail
 obtain⟨w15,hw15⟩:∃ w15,w14.setCell ⟨p+1,0,none⟩ (.int .i64 0)=w15:=⟨_,rfl⟩
 rw[hw15]
 have hd15:aq (fun k=>k=p+1) w14 w15:=hw15 ▸ (aq.refl (fun k=>k=p+1) w14).setCell (p:=⟨p+1,0,none⟩) (fun _=>rfl) _
 have q8:af w15 (p+1) 29 #[.int .i64 0]:=hw15 ▸ (by simpa using A8.out.set_ 0 (.int .i64 0))
 have q5:=A5.out.mod hd15 (A5.out.ne_ A8.out (by decide))
 have q12:=A12.out.mod hd15 (A12.out.ne_ A8.out (by decide))
 have qs:=AS.out.mod hd15 (AS.out.ne_ A8.out (by decide))
 have hr15:bC w.heap.size w15 a1 m1 c1 (.slice ka 0 kc):=(HR11.out.keep H14.out).store A8.out (by decide) hd15
 have hm15:aq (fun k=>k=st∨k=a1∨k=m1∨k=h1∨k=tb∨k=c1) w w15:=(HD11.out.trans (aq.ofBelow (F:=fun _=>False) H14.out) (fun _ _ f=>f.elim)).trans hd15 (fun k hk e=>by omega)
 refine leaves_cons (f:=239) (args:=#[.pointer (some ⟨p,0,none⟩),.pointer (some ⟨p+1,0,none⟩),.pointer (some ⟨r+1,0,none⟩)]) (by simp) (by simp [go_sem]) ?_
 refine (Bx w15 p (p+1) (r+1) st a1 m1 h1 a2 m2 c1 u .returning hu (q5.cell 0) (q8.cell 0) (q12.cell 0) qs).mono ?_
 rintro e u' w16 ⟨rfl,rfl,hs16,hd16⟩
 have z8:=(q8.mod hd16 (q8.ne_ qs (by decide))).cell 0
 simp only[List.getElem?_toArray,List.getElem?_cons_zero] at z8
 have hr16:=hr15.store qs (by decide) hd16
 have hm16:=hm15.trans hd16 (fun _ _ e=>.inl e)
 simp [Leaves,settle,results,results182,go_sem,z8]
 exact⟨⟨ka,kc,hkc,hs16,hr16⟩,hm16⟩
theorem Ea {Q:Nat->Prop} (w:World) (B bb ss mb st a1 m1 h1 tb a2 m2 c1:Nat) (nm:ByteArray) (bv:Value) (ra:Option Addr) (rc:Nat) (hrc:rc<=maxLen) (hB:cP w bb ss mb) (hS:bE Q w ss 8 [⟨nm.data.toList,[]⟩])
 (hM:bF w mb #[{ key:=.string nm,val:=.pointer (some ⟨st,0,none⟩),born:=0 }] 1) (hE:sV w st a1 m1 h1 tb a2 m2 c1 false 0) (hb:w.ownsRow B 68 3 bv 1 [.bool true,.string nm,.slice ra 0 rc]) (hck:nG [⟨true,nm.data.toList,[]⟩] [⟨nm.data.toList,[]⟩]=(0,0)) :
 Calls prog 105 #[.pointer (some ⟨bb,0,none⟩),bv] w fun e w'=>∃ v,e=.returned (.tuple #[v,.int .i64 0,.int .i64 0])/\(∃ ka kc,kc<=maxLen/\af w' st 326 #[.int .i64 0,.int .i64 512,.int .i64 1,.slice none 0 0,.pointer (some ⟨a1,0,none⟩),.map (some m1),.pointer (some ⟨h1,0,none⟩),.slice none 0 0,.pointer (some ⟨a2,0,none⟩),.map (some m2),.pointer (some ⟨c1,0,none⟩),.bool false,.slice none 0 0]/\bC w.heap.size w' a1 m1 c1 (.slice ka 0 kc))/\aq (fun k=>k=st∨k=a1∨k=m1∨k=h1∨k=tb∨k=c1) w w':=by
 have H:=Fx (Fe w B bb ss mb st a1 m1 h1 tb a2 m2 c1 nm bv ra rc hrc hB hS hM hE hb hck)
 clear hB hS hM hE hb
 go_enter func105,ntmps105
 go_wp2_with fail
 refine H.out.mono ?_
 rintro e w1 ⟨v,rfl,h1,h2⟩
 have H1:=Fx h1
 have H2:=Fx h2
 clear h1 h2
 go_wp2_with fail
 go_ret3
 exact⟨v,rfl,H1.out,H2.out⟩
end Go.Proofs.YtgopfpjinohncaaGreatDoor
namespace Go.Proofs.YtgopfpjinohncaaGreatDoor
open Go.Proofs.Tryz
open Go.RowKit
def zD:ByteArray:=⟨#[114,101,108,32,80,40,41]⟩
def zB:ByteArray:=⟨#[98,97,116,99,104,32,43,80,40,41]⟩
def tu:ByteArray:=⟨#[80]⟩
theorem Er:qq 1 ((aN zD.data.toList).ts.headD fY) zD.data.toList=.ok { eD with kind:=1,rel:=⟨[80],[]⟩ } []:=by kernel_rfl
theorem EX:qq 4 ((aN zB.data.toList).ts.headD fY) zB.data.toList=.ok { eD with kind:=4,b:=[⟨true,[80],[]⟩] } []:=by kernel_rfl
def CR (w w':World) (bb ss mb:Nat):Prop:=∃ st a1 m1 h1 tb a2 m2 c1 hi,Dd w' st a1 m1 h1 tb a2 m2 c1 false/\bF w' mb #[{ key:=.string tu,val:=.pointer (some ⟨st,0,none⟩),born:=0 }] 1/\cP w' bb ss mb /\
 bE (fun k=>w.heap.size<=k/\k<hi) w' ss 8 [⟨tu.data.toList,[]⟩]/\w.heap.size<=hi/\hi<=st/\aq (fun k=>k=ss∨k=mb) w w'
theorem AA (w:World) (ld bb ss mb:Nat) (hg:d8 w) (hL:af w ld 86 #[.pointer (some ⟨bb,0,none⟩),.slice none 0 0]) (hB:cP w bb ss mb) (hS:bE (fun _=>False) w ss 8 []) (hM:bF w mb #[] 0) :
 Calls prog 42 #[.pointer (some ⟨ld,0,none⟩),.string zD] w fun e w'=>e=.returned (.int .i64 0)/\CR w w' bb ss mb:=by
 have hp:=qX (K:=1) (t:=(aN zD.data.toList).ts.headD fY) (c:=(aN zD.data.toList).ts.tail) zD w (by decide) hg (by kernel_rfl) (by kernel_rfl) (by kernel_rfl) (by decide)
 rw[Er] at hp
 have HP:=Fx hp
 have HL:=Fx hL
 have HB:=Fx hB
 have HS:=Fx hS
 have HM:=Fx hM
 clear hp hg hL hB hS hM
 go_enter func42,ntmps42
 go_wp2_with fail
 refine HP.out.mono ?_
 rintro e w1 ⟨cells,rfl,hown,hb⟩
 obtain⟨cv,hv,av,bv,rv,rfl,g1,g2,g3,g4,g5⟩:=hown
 obtain⟨o1,d1,rfl⟩:=aB g1
 obtain⟨o2,d2,rfl⟩:=aB g2
 obtain⟨o3,d3,rfl⟩:=ky g3
 obtain⟨_,g6,_⟩:=g4
 obtain⟨o4,d4,rfl⟩:=aB g6
 obtain⟨o5,d5,rfl⟩:=aB g5
 have hc1:=bV.at g1 (by simp)
 simp only[eD,List.length_nil] at hc1 ⊢
 rw[show (⟨[80].toArray⟩:ByteArray)=tu from rfl]
 obtain⟨x,hx⟩:∃ x,w1.heap.size=x:=⟨_,rfl⟩
 have b2:Below w.heap.size w (w1.alloc (.cells #[.int .i64 1,.string tu,.slice o1 0 d1,.string ⟨#[]⟩,.slice o2 0 d2,.slice o3 0 d3,.slice o4 0 d4,.string ⟨#[]⟩,.int .i64 0,.int .i64 0,.slice o5 0 d5] 61)):=ae hb _
 have hX:af (w1.alloc (.cells #[.int .i64 1,.string tu,.slice o1 0 d1,.string ⟨#[]⟩,.slice o2 0 d2,.slice o3 0 d3,.slice o4 0 d4,.string ⟨#[]⟩,.int .i64 0,.int .i64 0,.slice o5 0 d5] 61)) x 61 #[.int .i64 1,.string tu,.slice o1 0 d1,.string ⟨#[]⟩,.slice o2 0 d2,.slice o3 0 d3,.slice o4 0 d4,.string ⟨#[]⟩,.int .i64 0,.int .i64 0,.slice o5 0 d5]:=hx ▸ af.new _ _ _
 have hc2:=aO.keep hc1 (ae (Below.refl w1.heap.size w1) (.cells #[.int .i64 1,.string tu,.slice o1 0 d1,.string ⟨#[]⟩,.slice o2 0 d2,.slice o3 0 d3,.slice o4 0 d4,.string ⟨#[]⟩,.int .i64 0,.int .i64 0,.slice o5 0 d5] 61))
 clear g1 g2 g3 g5 g6 HP hb
 have x0:=hX.cell 0
 have xl:=hX.lt
 simp only[List.getElem?_toArray,List.getElem?_cons_zero] at x0
 go_upto_region 6 with fail
 clear x0 xl
 obtain⟨W2,hW2⟩:∃ W2,w1.alloc (.cells #[.int .i64 1,.string tu,.slice o1 0 d1,.string ⟨#[]⟩,.slice o2 0 d2,.slice o3 0 d3,.slice o4 0 d4,.string ⟨#[]⟩,.int .i64 0,.int .i64 0,.slice o5 0 d5] 61)=W2:=⟨_,rfl⟩
 rw[hW2] at b2 hX hc2 ⊢
 have HX:=Fx hX
 have HD2:=Fx b2
 have HL2:=Fx (HL.out.below b2 HL.out.lt)
 have HDC:=Fx (AU W2.drew bb ss mb tu o1 d1 (af.below HB.out (ay b2) (af.lt HB.out)) (HS.out.keep (ay b2)) ((HM.out.mod (aq.ofBelow (F:=fun _=>False) b2) (fun f=>f)).drew) hc2 (by decide) (by kernel_rfl) (by kernel_rfl))
 clear hX b2 hc1 hc2 hx hW2
 obtain⟨SS,hSS⟩:∃ SS:World->Prop,SS=fun W=>af W ld 86 #[.pointer (some ⟨bb,0,none⟩),.slice none 0 0]/\af W x 61 #[.int .i64 1,.string tu,.slice o1 0 d1,.string ⟨#[]⟩,.slice o2 0 d2,.slice o3 0 d3,.slice o4 0 d4,.string ⟨#[]⟩,.int .i64 0,.int .i64 0,.slice o5 0 d5]:=⟨_,rfl⟩
 have HSC:Hid (∀ W,SS W->W.cell? ⟨ld,0,none⟩=some (.pointer (some ⟨bb,0,none⟩))/\W.cell? ⟨x,1,none⟩=some (.string tu)/\W.cell? ⟨x,2,none⟩=some (.slice o1 0 d1)/\ld<W.heap.size/\x<W.heap.size):=Fx (fun W q=>by
  rw[hSS] at q
  obtain⟨r0,r1⟩:=q
  exact⟨(r0.cell 0).trans rfl,(r1.cell 1).trans rfl,(r1.cell 2).trans rfl,r0.lt,r1.lt⟩)
 have HSI:Hid (∀ W,af W ld 86 #[.pointer (some ⟨bb,0,none⟩),.slice none 0 0]/\af W x 61 #[.int .i64 1,.string tu,.slice o1 0 d1,.string ⟨#[]⟩,.slice o2 0 d2,.slice o3 0 d3,.slice o4 0 d4,.string ⟨#[]⟩,.int .i64 0,.int .i64 0,.slice o5 0 d5]->SS W):=Fx (fun W q=>by rw[hSS];exact q)
 clear hSS
 have HSS:SS W2.drew:=HSI.out _ (⟨HL2.out.drew,HX.out.drew⟩)
 refine wp_region_held_drew (by kernel_rfl) HSS (fun _=>?_)
 refine Held.tk 0 26 HSS ?_
 refine Held.tk 1 27 HSS ?_
 refine Held.tk 2 28 HSS ?_
 refine Held.tk 3 29 HSS ?_
 refine Held.on 4 (fun K hK=>?_)
 go_simp
 refine hK.out _ _ HSS ?_
 clear hK K
 try simp only[FG]
 refine Held.tk 5 31 HSS ?_
 refine Held.on 6 (fun K hK=>?_)
 go_simp
 refine HDC.out.mono ?_
 rintro e w3 ⟨st,a1,m1,h1,tb,a2,m2,c1,hi,rfl,hE,hM3,hB3,hS3,hh1,hh2,hd3⟩
 have nl:¬ (ld=ss∨ld=mb):=by
  rintro (e | e)
  ·obtain⟨sv,q,_⟩:=HS.out
   exact HL.out.ne_ q (by decide) e
  ·exact HM.out.ne HL.out e.symm
 have nx:¬ (x=ss∨x=mb):=by
  rintro (e | e)
  ·obtain⟨sv,q,_⟩:=HS.out.keep HD2.out
   exact HX.out.ne_ q (by decide) e
  ·exact (HM.out.mod (aq.ofBelow (F:=fun _=>False) HD2.out) (fun f=>f)).ne HX.out e.symm
 have HE:=Fx hE
 have HM3:=Fx hM3
 have HB3:=Fx hB3
 have hz:=HD2.out.size
 have HS3:=Fx (hS3.mono (Q':=fun k=>w.heap.size<=k/\k<hi) (fun k _ q=>⟨Nat.le_trans hz q.1,q.2⟩))
 have HH:=Fx (show w.heap.size<=hi/\hi<=st from ⟨Nat.le_trans hz hh1,hh2⟩)
 have HD3:=Fx ((aq.ofBelow (F:=fun k=>k=ss∨k=mb) (ay HD2.out)).trans hd3 (fun _ _ e=>e))
 clear HSS
 have HSS:=HSI.out w3 ⟨HL2.out.drew.mod hd3 nl,HX.out.drew.mod hd3 nx⟩
 refine hK.out _ _ HSS ?_
 clear hK K hE hM3 hB3 hS3 hh1 hh2 hd3 nl nx hz
 try simp only[FG]
 refine Held.tk 7 4 HSS ?_
 refine wpAnyH_done (by kernel_rfl) ?_ _
 clear HSS HSC HSI
 go_wp2_with fail
 go_ret
 exact⟨rfl,st,a1,m1,h1,tb,a2,m2,c1,hi,HE.out,HM3.out,HB3.out,HS3.out,HH.out.1,HH.out.2,HD3.out⟩
theorem BC {Q:Nat->Prop} (w:World) (ld bb ss mb st a1 m1 h1 tb a2 m2 c1:Nat) (hg:d8 w) (hL:af w ld 86 #[.pointer (some ⟨bb,0,none⟩),.slice none 0 0]) (hB:cP w bb ss mb) (hS:bE Q w ss 8 [⟨tu.data.toList,[]⟩]) (hM:bF w mb #[{ key:=.string tu,val:=.pointer (some ⟨st,0,none⟩),born:=0 }] 1) (hE:sV w st a1 m1 h1 tb a2 m2 c1 false 0) :
 Calls prog 42 #[.pointer (some ⟨ld,0,none⟩),.string zB] w fun e w'=>e=.returned (.int .i64 0)/\(∃ ka kc,kc<=maxLen/\af w' st 326 #[.int .i64 0,.int .i64 512,.int .i64 1,.slice none 0 0,.pointer (some ⟨a1,0,none⟩),.map (some m1),.pointer (some ⟨h1,0,none⟩),.slice none 0 0,.pointer (some ⟨a2,0,none⟩),.map (some m2),.pointer (some ⟨c1,0,none⟩),.bool false,.slice none 0 0]/\bC w.heap.size w' a1 m1 c1 (.slice ka 0 kc))/\aq (fun k=>k=st∨k=a1∨k=m1∨k=h1∨k=tb∨k=c1) w w':=by
 have hp:=qX (K:=4) (t:=(aN zB.data.toList).ts.headD fY) (c:=(aN zB.data.toList).ts.tail) zB w (by decide) hg (by kernel_rfl) (by kernel_rfl) (by kernel_rfl) (by decide)
 rw[EX] at hp
 have HP:=Fx hp
 have HL:=Fx hL
 have HB:=Fx hB
 have HS:=Fx hS
 have HM:=Fx hM
 have HE:=Fx hE
 clear hp hg hL hB hS hM hE
 go_enter func42,ntmps42
 go_wp2_with fail
 refine HP.out.mono ?_
 rintro e w1 ⟨cells,rfl,hown,hb⟩
 obtain⟨cv,hv,av,bv,rv,rfl,g1,g2,g3,g4,g5⟩:=hown
 obtain⟨o1,d1,rfl⟩:=aB g1
 obtain⟨o2,d2,rfl⟩:=aB g2
 obtain⟨o3,d3,rfl⟩:=ky g3
 obtain⟨rows,g6,g7⟩:=g4
 obtain⟨o4,d4,rfl⟩:=aB g6
 obtain⟨o5,d5,rfl⟩:=aB g5
 obtain⟨ra,rc,hrc,hrow⟩:∃ ra rc,rc<=maxLen/\rows.flatten=[.bool true,.string tu,.slice ra 0 rc]:=by
  match rows,g7 with
  | [row],h =>
    obtain⟨rv',hrv,ho⟩:=h.1
    obtain⟨ra,rc,rfl⟩:=aB ho
    refine⟨ra,rc,?_,?_⟩
    ·rcases ho.2 with ⟨e,_⟩ | ⟨g',cap',cur,e,_,_,_,q,_⟩
     ·simp only[Value.slice.injEq] at e
      omega
     ·simp only[Value.slice.injEq] at e
      omega
    ·rw[hrv]
     rfl
  | [],h=>exact h.elim
  | _::_::_,h=>exact h.2.elim
 rw[hrow] at g6
 simp only[eD,List.length_nil,List.length_cons,Nat.zero_add] at g6 ⊢
 obtain⟨x,hx⟩:∃ x,w1.heap.size=x:=⟨_,rfl⟩
 have b2:Below w.heap.size w (w1.alloc (.cells #[.int .i64 4,.string ⟨#[]⟩,.slice o1 0 d1,.string ⟨#[]⟩,.slice o2 0 d2,.slice o3 0 d3,.slice o4 1 d4,.string ⟨#[]⟩,.int .i64 0,.int .i64 0,.slice o5 0 d5] 61)):=ae hb _
 have hX:af (w1.alloc (.cells #[.int .i64 4,.string ⟨#[]⟩,.slice o1 0 d1,.string ⟨#[]⟩,.slice o2 0 d2,.slice o3 0 d3,.slice o4 1 d4,.string ⟨#[]⟩,.int .i64 0,.int .i64 0,.slice o5 0 d5] 61)) x 61 #[.int .i64 4,.string ⟨#[]⟩,.slice o1 0 d1,.string ⟨#[]⟩,.slice o2 0 d2,.slice o3 0 d3,.slice o4 1 d4,.string ⟨#[]⟩,.int .i64 0,.int .i64 0,.slice o5 0 d5]:=hx ▸ af.new _ _ _
 have g8:=(aq.ofBelow (F:=fun _=>False) (ae (Below.refl w1.heap.size w1) (.cells #[.int .i64 4,.string ⟨#[]⟩,.slice o1 0 d1,.string ⟨#[]⟩,.slice o2 0 d2,.slice o3 0 d3,.slice o4 1 d4,.string ⟨#[]⟩,.int .i64 0,.int .i64 0,.slice o5 0 d5] 61))).ownsRow g6 (fun _ _ f=>f)
 clear g1 g2 g3 g5 g6 g7 HP hb
 have x0:=hX.cell 0
 have xl:=hX.lt
 simp only[List.getElem?_toArray,List.getElem?_cons_zero] at x0
 go_upto_region 8 with fail
 clear x0 xl
 obtain⟨W2,hW2⟩:∃ W2,w1.alloc (.cells #[.int .i64 4,.string ⟨#[]⟩,.slice o1 0 d1,.string ⟨#[]⟩,.slice o2 0 d2,.slice o3 0 d3,.slice o4 1 d4,.string ⟨#[]⟩,.int .i64 0,.int .i64 0,.slice o5 0 d5] 61)=W2:=⟨_,rfl⟩
 rw[hW2] at b2 hX g8 ⊢
 have HX:=Fx hX
 have HD2:=Fx b2
 have HL2:=Fx (HL.out.below b2 HL.out.lt)
 have HE2:=Fx (HE.out.mod (aq.ofBelow (F:=fun _=>False) (ay b2)) (fun _ _ f=>f))
 have HAP:=Fx (Ea W2.drew w.heap.size bb ss mb st a1 m1 h1 tb a2 m2 c1 tu _ ra rc hrc (af.below HB.out (ay b2) (af.lt HB.out)) (HS.out.keep (ay b2)) ((HM.out.mod (aq.ofBelow (F:=fun _=>False) b2) (fun f=>f)).drew) HE2.out g8 (by kernel_rfl))
 clear hX b2 g8 hx hW2 hrow rows
 obtain⟨SS,hSS⟩:∃ SS:World->Prop,SS=fun W=>af W ld 86 #[.pointer (some ⟨bb,0,none⟩),.slice none 0 0]/\af W x 61 #[.int .i64 4,.string ⟨#[]⟩,.slice o1 0 d1,.string ⟨#[]⟩,.slice o2 0 d2,.slice o3 0 d3,.slice o4 1 d4,.string ⟨#[]⟩,.int .i64 0,.int .i64 0,.slice o5 0 d5]:=⟨_,rfl⟩
 have HSC:Hid (∀ W,SS W->W.cell? ⟨ld,0,none⟩=some (.pointer (some ⟨bb,0,none⟩))/\W.cell? ⟨x,6,none⟩=some (.slice o4 1 d4)/\ld<W.heap.size/\x<W.heap.size):=Fx (fun W q=>by
  rw[hSS] at q
  obtain⟨r0,r1⟩:=q
  exact⟨(r0.cell 0).trans rfl,(r1.cell 6).trans rfl,r0.lt,r1.lt⟩)
 have HSI:Hid (∀ W,af W ld 86 #[.pointer (some ⟨bb,0,none⟩),.slice none 0 0]/\af W x 61 #[.int .i64 4,.string ⟨#[]⟩,.slice o1 0 d1,.string ⟨#[]⟩,.slice o2 0 d2,.slice o3 0 d3,.slice o4 1 d4,.string ⟨#[]⟩,.int .i64 0,.int .i64 0,.slice o5 0 d5]->SS W):=Fx (fun W q=>by rw[hSS];exact q)
 clear hSS
 have HSS:SS W2.drew:=HSI.out _ (⟨HL2.out.drew,HX.out.drew⟩)
 refine wp_region_held_drew (by kernel_rfl) HSS (fun _=>?_)
 refine Held.tk 0 36 HSS ?_
 refine Held.tk 1 37 HSS ?_
 refine Held.tk 2 38 HSS ?_
 refine Held.tk 3 39 HSS ?_
 refine Held.on 4 (fun K hK=>?_)
 go_simp
 refine hK.out _ _ HSS ?_
 clear hK K
 try simp only[FG]
 refine Held.tk 5 41 HSS ?_
 refine Held.on 6 (fun K hK=>?_)
 go_simp
 refine HAP.out.mono ?_
 rintro e w3 ⟨v,rfl,⟨ka,kc,hkc,hs3,hr3⟩,hd3⟩
 have hF:∀ {k:Nat} {t:TypeId} {cs:Array Value},af W2.drew k t cs->t≠326->t≠394->t≠397->t≠428->t≠377->af w3 k t cs:=fun q n1 n2 n3 n4 n5=>q.mod hd3 (by
  rintro (e | e | e | e | e | e)
  ·exact q.ne_ HE2.out.s n1 e
  ·exact q.ne_ HE2.out.a n2 e
  ·exact HE2.out.m.ne q e.symm
  ·exact q.ne_ HE2.out.h n3 e
  ·exact q.ne_ HE2.out.t n4 e
  ·exact q.ne_ HE2.out.c n5 e)
 have HS3:=Fx hs3
 have HR3:=Fx (hr3.low (show w.heap.size<=_ from HD2.out.size))
 have HD3:=Fx ((aq.ofBelow (F:=fun k=>k=st∨k=a1∨k=m1∨k=h1∨k=tb∨k=c1) (ay HD2.out)).trans hd3 (fun _ _ e=>e))
 clear HSS
 have HSS:=HSI.out w3 ⟨hF HL2.out.drew (by decide) (by decide) (by decide) (by decide) (by decide),hF HX.out.drew (by decide) (by decide) (by decide) (by decide) (by decide)⟩
 refine hK.out _ _ HSS ?_
 clear hK K hs3 hr3 hd3 hF
 try simp only[FG]
 refine Held.tk 7 35 HSS ?_
 refine Held.tk 8 43 HSS ?_
 refine Held.tk 9 44 HSS ?_
 refine Held.tk 10 45 HSS ?_
 refine Held.tk 11 8 HSS ?_
 refine Held.tk 12 9 HSS ?_
 refine Held.tk 13 10 HSS ?_
 refine wpAnyH_done (by kernel_rfl) ?_ _
 clear HSS HSC HSI
 go_wp2_with fail
 go_ret
 exact⟨rfl,⟨ka,kc,hkc,HS3.out,HR3.out⟩,HD3.out⟩
