/- osierref25.Parse, walked (printed by mkcr4.py): the lower layers. -/
import Derived.Test.YtamjadghncnbcaaGreatDoorDuW
namespace Go.Proofs.YtamjadghncnbcaaGreatDoor
open Go.RowKit
set_option linter.unusedVariables false
theorem innerP_bad {α:Type} {fr:Int} {z:α} {a f:Int} {F:α->Cmd} (h:f≠0):innerP fr z (.bad a f) F=.bad (fr+a) f:=by
 unfold innerP
 simp [h]
theorem innerP_ok {α:Type} (fr:Int) (z:α) (x:α) (c:List Tok) (F:α->Cmd):innerP fr z (.ok x c) F=.ok (F x) []:=rfl
set_option maxHeartbeats 4000000 in
set_option maxRecDepth 100000 in
theorem ref25_S (s:ByteArray) (w:World) (hs:s.size<=281474976710656) (hg:Glob w) (t:Tok) (c:List Tok) (hst:startS (lexR s.data.toList)=.ok (t::c)) (k:Nat) (hk18:k<18) (hk1:t.k=1) (hix:idxI wordsC t.x=k) (h0p:0<=t.p) (h1p:t.p+(⟨t.x.toArray⟩:ByteArray).size<=281474976710656) (fm:ByteArray) (hfm:(formsC.map fun s=>Value.string ⟨s.toArray⟩).toArray[k]? = some (.string fm)) (hd:(fm.toList == [100])=true)
 (fr:Nat) (hfr:(fr:Int)=t.p+(⟨t.x.toArray⟩:ByteArray).size) (hfs:fr<=s.size) (pp:PR Rln) (hpl:PlaceOk pp) (hne:∀ a e,pp=.bad a e->e≠0) (hpp:∀ W,Below w.heap.size w W->Calls Tryz.prog 56 #[.string (s.extract fr s.size)] W (SPost W pp)) :
 Calls Tryz.prog 14 #[.string s] w (CmdPost w (innerP (fr:Int) ⟨[],[]⟩ pp (fun x => { cmd0 with kind:=(k:Int)+1,rel:=x }))):=by
 have HX:=Lib.hid hix
 have HFM2:=Lib.hid hfm
 have hge:Good (.ok (t::c)):=by rw[<-hst];exact startS_good _
 have hwt:wantS 1 [] (.ok (t::c))=(t,.ok c):=by
  show wantT 1 [] (t::c)=_
  unfold wantT
  exact if_pos ⟨hk1,.inl rfl⟩
 have hg1:Good (.ok c):=Ended.cons hge (by rw[hk1];decide)
 have HWT:=Lib.hid hwt
 have HG1:=Lib.hid hg1
 have HK1:=Lib.hid hk1
 clear hge hwt hg1 hix hfm hk1
 have HPP:=Lib.hid hpp
 have HPL:=Lib.hid (And.intro hpl hne)
 have HFR:=Lib.hid hfr
 clear hpp hpl hne hfr
 obtain⟨RES,hRES⟩:∃ RES,innerP (fr:Int) ⟨[],[]⟩ pp (fun x => { cmd0 with kind:=(k:Int)+1,rel:=x })=RES:=⟨_,rfl⟩
 rw[hRES]
 have HRES:=Lib.hid hRES
 clear hRES
 have hb0:Below w.heap.size w (w.alloc (.cells #[.int .i64 0,.string ⟨#[]⟩,.slice none 0 0,.string ⟨#[]⟩,.slice none 0 0,.slice none 0 0,.slice none 0 0,.string ⟨#[]⟩,.int .i64 0,.int .i64 0,.slice none 0 0] 39)):=balloc (Below.refl _ _) _
 have ho:=refOpen_any s _ hs (hg.below hb0)
 have hgd:Good (.ok (t::c)):=by rw[<-hst];exact startS_good _
 rw[hst] at ho
 have hr0:=Blk.new w 39 #[.int .i64 0,.string ⟨#[]⟩,.slice none 0 0,.string ⟨#[]⟩,.slice none 0 0,.slice none 0 0,.slice none 0 0,.string ⟨#[]⟩,.int .i64 0,.int .i64 0,.slice none 0 0]
 have HO:=Lib.hid ho
 have HR0:=Lib.hid hr0
 have HB0:=Lib.hid hb0
 have HGD:=Lib.hid hgd
 clear ho hr0 hb0 hst hgd
 obtain⟨tkk,x,vk,vn,vs,tp⟩:=t
 simp only at *
 have hxs:(⟨x.toArray⟩:ByteArray).size=x.length:=by simp [ByteArray.size]
 go_enter Tryz.func14,Tryz.ntmps14
 go_wp2_with fail
 refine HO.out.mono ?_
 rintro e w1 ⟨b,vt,rfl,hbs,hln,hb1⟩
 have hbl:w.heap.size<b:=by simp at hbs;omega
 obtain⟨tb0,ib,pb,hld,_⟩:=ln_ok hln
 have e3:=hld.blk.cell 3
 have hel:=hld.blk.lt
 simp only[List.getElem?_toArray,List.getElem?_cons_zero,List.getElem?_cons_succ] at e3
 have HW1:=Lib.hid (refWords_any w1)
 have HB1:=Lib.hid (bt2 HB0.out hb1)
 have HR1:=Lib.hid (HR0.out.below hb1 HR0.out.lt)
 have HLN:=Lib.hid hln
 skip
 clear hb1 hln hld HO HR0 HB0 hbs
 go_wp2_with fail
 refine HW1.out.mono ?_
 rintro e w2 ⟨rfl,hwd,hfm,hb2⟩
 have HWD:=Lib.hid hwd
 have HFM:=Lib.hid hfm
 have HB2:=Lib.hid hb2
 have HNX:=Lib.hid (next_ln (HLN.out.keep hb2))
 have hz2:=hb2.size
 clear hwd hfm hb2 HW1 e3
 unfold Tok.v at HNX
 go_wp2_with fail
 refine HNX.out.mono ?_
 rintro e w3 ⟨rfl,hb3⟩
 have hz3:=hb3.size
 generalize hxb:(⟨x.toArray⟩:ByteArray)=xb at *
 generalize hvb:(⟨vs.toArray⟩:ByteArray)=vb at *
 have bk:Below w3.heap.size w3 ((w3.alloc (.cells #[.int .i64 tkk,.string xb,.int .i64 vk,.int .i64 vn,.string vb,.int .i64 tp] 105)).alloc (.cells #[.int .i64 0,.string ⟨#[]⟩,.slice none 0 0,.string ⟨#[]⟩,.slice none 0 0,.slice none 0 0,.slice none 0 0,.string ⟨#[]⟩,.int .i64 0,.int .i64 0,.slice none 0 0] 39)):=balloc (balloc (Below.refl _ _) _) _
 have hb23:=HB2.out.trans (hb3.mono hz2)
 have hb13:=hb23.trans (bk.mono hb23.size)
 have hb23b:=hb3.trans (bk.mono hz3)
 have hf:DF w ((w3.alloc (.cells #[.int .i64 tkk,.string xb,.int .i64 vk,.int .i64 vn,.string vb,.int .i64 tp] 105)).alloc (.cells #[.int .i64 0,.string ⟨#[]⟩,.slice none 0 0,.string ⟨#[]⟩,.slice none 0 0,.slice none 0 0,.slice none 0 0,.string ⟨#[]⟩,.int .i64 0,.int .i64 0,.slice none 0 0] 39)) b w3.heap.size (w3.heap.size+1) w1.heap.size vt (.ok (⟨tkk,x,vk,vn,vs,tp⟩::c)) #[.int .i64 0,.string ⟨#[]⟩,.slice none 0 0,.string ⟨#[]⟩,.slice none 0 0,.slice none 0 0,.slice none 0 0,.string ⟨#[]⟩,.int .i64 0,.int .i64 0,.slice none 0 0] tkk vk vn tp xb vb :=
  ⟨HR1.out.below hb13 HR1.out.lt,(Blk.new _ _ _).alloc _,blkNew1 _ _ _ _,HLN.out.keep hb13,HGD.out,HWD.out.below hb23b HWD.out.lt,HFM.out.below hb23b HFM.out.lt,HB1.out.trans (hb13.mono HB1.out.size),hbl,by omega,by omega,by omega⟩
 obtain⟨W4,hW4⟩:∃ W4,(w3.alloc (.cells #[.int .i64 tkk,.string xb,.int .i64 vk,.int .i64 vn,.string vb,.int .i64 tp] 105)).alloc (.cells #[.int .i64 0,.string ⟨#[]⟩,.slice none 0 0,.string ⟨#[]⟩,.slice none 0 0,.slice none 0 0,.slice none 0 0,.string ⟨#[]⟩,.int .i64 0,.int .i64 0,.slice none 0 0] 39)=W4:=⟨_,rfl⟩
 rw[hW4] at hf
 have HW4:=Lib.hid hW4
 have HF4:=Lib.hid hf
 have HXB:=Lib.hid (And.intro hxb hvb)
 have z0:=hf.k.cell 0
 have z1:=hf.k.cell 1
 have z5:=hf.k.cell 5
 have zl:=hf.k.lt
 have q0:=hf.q.cell 0
 have qy:=hf.q.frozen 0
 have ql:=hf.q.lt
 simp only[List.getElem?_toArray,List.getElem?_cons_zero,List.getElem?_cons_succ] at z0 z1 z5 q0
 have hsa:StrsAt W4 (.slice (some ⟨w1.heap.size,0,none⟩) 18 18) wordsC:=strs_blk hf.wd (by decide)
 have HSA:=Lib.hid hsa
 clear hb3 bk hb23 hb13 hb23b hf hW4 hxb hvb hsa hel HNX HLN HGD HB1 HR1 HWD HFM HB2
 go_upto_region 7 with fail
 rw[HW4.out]
 have hk1:=HK1.out
 subst hk1
 have hat:=refAt_any W4 _ wordsC x HSA.out
 rw[HX.out,HXB.out.1] at hat
 have HAT:=Lib.hid hat
 have hne0:((k:Int)+1 == 0)=false:=by rw[beq_eq_false_iff_ne];omega
 clear hat
 go_wp2_with fail
 refine HAT.out.mono ?_
 rintro e w5 ⟨rfl,rfl⟩
 have hf5:DF w (W4.setCell ⟨w3.heap.size+1,0,none⟩ (.int .i64 ((k:Int)+1))) b w3.heap.size (w3.heap.size+1) w1.heap.size vt (.ok (⟨1,x,vk,vn,vs,tp⟩::c)) #[.int .i64 ((k:Int)+1),.string ⟨#[]⟩,.slice none 0 0,.string ⟨#[]⟩,.slice none 0 0,.slice none 0 0,.slice none 0 0,.string ⟨#[]⟩,.int .i64 0,.int .i64 0,.slice none 0 0] 1 vk vn tp xb vb:=HF4.out.store 0 (.int .i64 ((k:Int)+1))
 obtain⟨W5,hW5⟩:∃ W5,W4.setCell ⟨w3.heap.size+1,0,none⟩ (.int .i64 ((k:Int)+1))=W5:=⟨_,rfl⟩
 rw[hW5] at hf5
 have HW5:=Lib.hid hW5
 have HF5:=Lib.hid hf5
 have hwn:=want_ln hf5.ln hf5.g 1 []
 rw[HWT.out] at hwn
 unfold Tok.v at hwn
 simp only[HXB.out.1,HXB.out.2] at hwn
 have HWN:=Lib.hid hwn
 clear hf5 hW5 HAT hwn
 go_upto_region 9 with fail
 rw[HW5.out]
 clear z0 z1 z5 zl q0 qy ql
 have q0:=HF5.out.q.cell 0
 have ql:=HF5.out.q.lt
 simp only[List.getElem?_toArray,List.getElem?_cons_zero] at q0
 go_wp2_with fail
 refine HWN.out.mono ?_
 rintro e w6 ⟨rfl,hl6,hm6⟩
 have hf6:=HF5.out.line hm6 hl6 HG1.out
 have HF6:=Lib.hid hf6
 clear q0 ql
 have q0:=hf6.q.cell 0
 have ql:=hf6.q.lt
 have z1:=hf6.k.cell 1
 have z5:=hf6.k.cell 5
 have zl:=hf6.k.lt
 have fk:=hf6.fm.cell k
 have fl:=hf6.fm.lt
 rw[HFM2.out] at fk
 simp only[List.getElem?_toArray,List.getElem?_cons_zero,List.getElem?_cons_succ] at q0 z1 z5
 clear hf6 hl6 hm6 HWN HF5 HW5 HF4 HW4
 clear hxs
 have hfr:=HFR.out
 first | simp only[HXB.out.1] at hfr | skip
 obtain⟨p0,hp0⟩:∃ p0:Nat,tp=(p0:Int):=⟨tp.toNat,by omega⟩
 subst hp0
 have hfr2:fr=p0+xb.size:=by omega
 subst hfr2
 have hcall:=HPP.out w6 HF6.out.bl
 have HCALL:=Lib.hid hcall
 clear hcall HPP hfr
 rw[Int.natCast_add] at HRES
 cases pp with
 | bad a f =>
   have hpa:=HPL.out.1 a f rfl
   have hfn:=HPL.out.2 a f rfl
   have hfn1:(f != 0)=true:=by simpa using hfn
   have hre:=(innerP_bad hfn).symm.trans HRES.out
   subst hre
   go_wp2_with fail
   refine HCALL.out.mono ?_
   rintro e w7 ⟨rfl,hb7⟩
   have hf7:=HF6.out.keep hb7
   have k0:=hf7.q.cell 0
   have ky0:=hf7.q.frozen 0
   have k1:=hf7.q.cell 1
   have ky1:=hf7.q.frozen 1
   have k2:=hf7.q.cell 2
   have ky2:=hf7.q.frozen 2
   have k3:=hf7.q.cell 3
   have ky3:=hf7.q.frozen 3
   have k4:=hf7.q.cell 4
   have ky4:=hf7.q.frozen 4
   have k5:=hf7.q.cell 5
   have ky5:=hf7.q.frozen 5
   have k6:=hf7.q.cell 6
   have ky6:=hf7.q.frozen 6
   have k7:=hf7.q.cell 7
   have ky7:=hf7.q.frozen 7
   have k8:=hf7.q.cell 8
   have ky8:=hf7.q.frozen 8
   have k9:=hf7.q.cell 9
   have ky9:=hf7.q.frozen 9
   have k10:=hf7.q.cell 10
   have ky10:=hf7.q.frozen 10
   have kl:=hf7.q.lt
   simp only[List.getElem?_toArray,List.getElem?_cons_zero,List.getElem?_cons_succ] at k0 k1 k2 k3 k4 k5 k6 k7 k8 k9 k10
   have mm1:MT 0 [39] w7 ((w7).setCell ⟨w3.heap.size+1,1,none⟩ (.string ⟨#[]⟩)):=MT.setCell (MT.refl w7) hf7.q (by simp) (Nat.zero_le _) _
   have hh1:DF w ((w7).setCell ⟨w3.heap.size+1,1,none⟩ (.string ⟨#[]⟩)) b w3.heap.size (w3.heap.size+1) w1.heap.size vt (.ok c) #[.int .i64 ((k:Int)+1),.string ⟨#[]⟩,.slice none 0 0,.string ⟨#[]⟩,.slice none 0 0,.slice none 0 0,.slice none 0 0,.string ⟨#[]⟩,.int .i64 0,.int .i64 0,.slice none 0 0] 1 vk vn (p0:Int) xb vb:=hf7.store 1 (.string ⟨#[]⟩)
   have mm2:MT 0 [39] w7 (((w7).setCell ⟨w3.heap.size+1,1,none⟩ (.string ⟨#[]⟩)).setCell ⟨w3.heap.size+1,2,none⟩ (.slice none 0 0)):=MT.setCell (mm1) hh1.q (by simp) (Nat.zero_le _) _
   have hh2:DF w (((w7).setCell ⟨w3.heap.size+1,1,none⟩ (.string ⟨#[]⟩)).setCell ⟨w3.heap.size+1,2,none⟩ (.slice none 0 0)) b w3.heap.size (w3.heap.size+1) w1.heap.size vt (.ok c) #[.int .i64 ((k:Int)+1),.string ⟨#[]⟩,.slice none 0 0,.string ⟨#[]⟩,.slice none 0 0,.slice none 0 0,.slice none 0 0,.string ⟨#[]⟩,.int .i64 0,.int .i64 0,.slice none 0 0] 1 vk vn (p0:Int) xb vb:=hh1.store 2 (.slice none 0 0)
   have HRR:=Lib.hid hh2.r
   have HBB:=Lib.hid hh2.bl
   have r0:=hf7.r.cell 0
   have ry0:=hf7.r.frozen 0
   have r1:=hf7.r.cell 1
   have ry1:=hf7.r.frozen 1
   have r2:=hf7.r.cell 2
   have ry2:=hf7.r.frozen 2
   have r3:=hf7.r.cell 3
   have ry3:=hf7.r.frozen 3
   have r4:=hf7.r.cell 4
   have ry4:=hf7.r.frozen 4
   have r5:=hf7.r.cell 5
   have ry5:=hf7.r.frozen 5
   have r6:=hf7.r.cell 6
   have ry6:=hf7.r.frozen 6
   have r7:=hf7.r.cell 7
   have ry7:=hf7.r.frozen 7
   have r8:=hf7.r.cell 8
   have ry8:=hf7.r.frozen 8
   have r9:=hf7.r.cell 9
   have ry9:=hf7.r.frozen 9
   have r10:=hf7.r.cell 10
   have ry10:=hf7.r.frozen 10
   have rl:=hf7.r.lt
   simp only[List.getElem?_toArray,List.getElem?_cons_zero,List.getElem?_cons_succ] at r0 r1 r2 r3 r4 r5 r6 r7 r8 r9 r10
   have hlt:=hh2.hc
   clear hb7 hf7 mm1 hh1 mm2 hh2 HF6 HCALL HRES q0 ql z1 z5 zl fk fl
   go_wp2_with fail
   rw[blk11_self HRR.out]
   exact refCmd_ret HRR.out rfl rfl rfl ⟨rfl,HBB.out⟩
 | ok x7 c7 =>
   have hre:=(innerP_ok _ _ _ _ _).symm.trans HRES.out
   subst hre
   go_wp2_with fail
   refine HCALL.out.mono ?_
   rintro e w7 ⟨cv,rfl,ho,hb7⟩
   obtain⟨ad,cap,rfl⟩:=own_sl ho
   have hf7:=HF6.out.keep hb7
   have hsz:w.heap.size<=w6.heap.size:=HF6.out.bl.size
   have k0:=hf7.q.cell 0
   have ky0:=hf7.q.frozen 0
   have k1:=hf7.q.cell 1
   have ky1:=hf7.q.frozen 1
   have k2:=hf7.q.cell 2
   have ky2:=hf7.q.frozen 2
   have k3:=hf7.q.cell 3
   have ky3:=hf7.q.frozen 3
   have k4:=hf7.q.cell 4
   have ky4:=hf7.q.frozen 4
   have k5:=hf7.q.cell 5
   have ky5:=hf7.q.frozen 5
   have k6:=hf7.q.cell 6
   have ky6:=hf7.q.frozen 6
   have k7:=hf7.q.cell 7
   have ky7:=hf7.q.frozen 7
   have k8:=hf7.q.cell 8
   have ky8:=hf7.q.frozen 8
   have k9:=hf7.q.cell 9
   have ky9:=hf7.q.frozen 9
   have k10:=hf7.q.cell 10
   have ky10:=hf7.q.frozen 10
   have kl:=hf7.q.lt
   simp only[List.getElem?_toArray,List.getElem?_cons_zero,List.getElem?_cons_succ] at k0 k1 k2 k3 k4 k5 k6 k7 k8 k9 k10
   have mm1:MT 0 [39] w7 ((w7).setCell ⟨w3.heap.size+1,1,none⟩ (.string ⟨x7.name.toArray⟩)):=MT.setCell (MT.refl w7) hf7.q (by simp) (Nat.zero_le _) _
   have hh1:DF w ((w7).setCell ⟨w3.heap.size+1,1,none⟩ (.string ⟨x7.name.toArray⟩)) b w3.heap.size (w3.heap.size+1) w1.heap.size vt (.ok c) #[.int .i64 ((k:Int)+1),.string ⟨x7.name.toArray⟩,.slice none 0 0,.string ⟨#[]⟩,.slice none 0 0,.slice none 0 0,.slice none 0 0,.string ⟨#[]⟩,.int .i64 0,.int .i64 0,.slice none 0 0] 1 vk vn (p0:Int) xb vb:=hf7.store 1 (.string ⟨x7.name.toArray⟩)
   have mm2:MT 0 [39] w7 (((w7).setCell ⟨w3.heap.size+1,1,none⟩ (.string ⟨x7.name.toArray⟩)).setCell ⟨w3.heap.size+1,2,none⟩ (.slice ad x7.cols.length cap)):=MT.setCell (mm1) hh1.q (by simp) (Nat.zero_le _) _
   have hh2:DF w (((w7).setCell ⟨w3.heap.size+1,1,none⟩ (.string ⟨x7.name.toArray⟩)).setCell ⟨w3.heap.size+1,2,none⟩ (.slice ad x7.cols.length cap)) b w3.heap.size (w3.heap.size+1) w1.heap.size vt (.ok c) #[.int .i64 ((k:Int)+1),.string ⟨x7.name.toArray⟩,.slice ad x7.cols.length cap,.string ⟨#[]⟩,.slice none 0 0,.slice none 0 0,.slice none 0 0,.string ⟨#[]⟩,.int .i64 0,.int .i64 0,.slice none 0 0] 1 vk vn (p0:Int) xb vb:=hh1.store 2 (.slice ad x7.cols.length cap)
   have OWN:Hid (CmdOwn w.heap.size (((w7).setCell ⟨w3.heap.size+1,1,none⟩ (.string ⟨x7.name.toArray⟩)).setCell ⟨w3.heap.size+1,2,none⟩ (.slice ad x7.cols.length cap)) #[.int .i64 ((k:Int)+1),.string ⟨x7.name.toArray⟩,.slice ad x7.cols.length cap,.string ⟨#[]⟩,.slice none 0 0,.slice none 0 0,.slice none 0 0,.string ⟨#[]⟩,.int .i64 0,.int .i64 0,.slice none 0 0] ((fun x => { cmd0 with kind:=(k:Int)+1,rel:=x }) x7)):=Lib.hid ⟨_,_,_,_,_,rfl,(mm2.ownsRow (World.ownsRow.low ho hsz) (by decide)),World.ownsRow_nil _ _ _ _,atoms_nil _ _,chgs_nil _ _,World.ownsRow_nil _ _ _ _⟩
   have HF9:=Lib.hid hh2
   have HRZ:=Lib.hid hh2.r
   obtain⟨W9,hW9⟩:∃ W9,((w7).setCell ⟨w3.heap.size+1,1,none⟩ (.string ⟨x7.name.toArray⟩)).setCell ⟨w3.heap.size+1,2,none⟩ (.slice ad x7.cols.length cap)=W9:=⟨_,rfl⟩
   rw[hW9] at HF9 OWN HRZ
   have HW9:=Lib.hid hW9
   clear hb7 hf7 mm1 hh1 mm2 hh2 hW9 HF6 HCALL HRES q0 ql z1 z5 zl fk fl
   go_upto_region 26 with fail
   rw[HW9.out]
   clear k0 ky0 k1 ky1 k2 ky2 k3 ky3 k4 ky4 k5 ky5 k6 ky6 k7 ky7 k8 ky8 k9 ky9 k10 ky10 kl
   have k0:=HF9.out.q.cell 0
   have ky0:=HF9.out.q.frozen 0
   have k1:=HF9.out.q.cell 1
   have ky1:=HF9.out.q.frozen 1
   have k2:=HF9.out.q.cell 2
   have ky2:=HF9.out.q.frozen 2
   have k3:=HF9.out.q.cell 3
   have ky3:=HF9.out.q.frozen 3
   have k4:=HF9.out.q.cell 4
   have ky4:=HF9.out.q.frozen 4
   have k5:=HF9.out.q.cell 5
   have ky5:=HF9.out.q.frozen 5
   have k6:=HF9.out.q.cell 6
   have ky6:=HF9.out.q.frozen 6
   have k7:=HF9.out.q.cell 7
   have ky7:=HF9.out.q.frozen 7
   have k8:=HF9.out.q.cell 8
   have ky8:=HF9.out.q.frozen 8
   have k9:=HF9.out.q.cell 9
   have ky9:=HF9.out.q.frozen 9
   have k10:=HF9.out.q.cell 10
   have ky10:=HF9.out.q.frozen 10
   have kl:=HF9.out.q.lt
   simp only[List.getElem?_toArray,List.getElem?_cons_zero,List.getElem?_cons_succ] at k0 k1 k2 k3 k4 k5 k6 k7 k8 k9 k10
   go_wp2_with (refine wpList_store_blk rfl 39 _ _ rfl w.heap.size 39 _ _ rfl rfl HF9.out.r (by kernel_rfl) rfl (by simp [Value.oneCell']) ?_)
   intro wz hbz hmz hzz
   have mz:MT w.heap.size [39] W9 wz:=MT.ofMod hmz HF9.out.r (by simp) (Nat.le_refl _)
   have HBZ:=Lib.hid hbz
   have HPZ:=Lib.hid (And.intro (CmdOwn.mt OWN.out mz (by decide) (by decide) (by decide) (by decide) (by decide) (by decide)) (HF9.out.bl.trans (mz.below HF9.out.bl.size)))
   clear hbz hmz hzz mz k0 ky0 k1 ky1 k2 ky2 k3 ky3 k4 ky4 k5 ky5 k6 ky6 k7 ky7 k8 ky8 k9 ky9 k10 ky10 kl
   go_wp2_with fail
   exact refCmd_ret HBZ.out rfl rfl rfl ⟨_,rfl,HPZ.out.1,HPZ.out.2⟩
set_option maxHeartbeats 4000000 in
set_option maxRecDepth 100000 in
theorem ref25_Q (s:ByteArray) (w:World) (hs:s.size<=281474976710656) (hg:Glob w) (t:Tok) (c:List Tok) (hst:startS (lexR s.data.toList)=.ok (t::c)) (k:Nat) (hk18:k<18) (hk1:t.k=1) (hix:idxI wordsC t.x=k) (h0p:0<=t.p) (h1p:t.p+(⟨t.x.toArray⟩:ByteArray).size<=281474976710656) (fm:ByteArray) (hfm:(formsC.map fun s=>Value.string ⟨s.toArray⟩).toArray[k]? = some (.string fm)) (hd:(fm.toList == [100])=false) (hq:(fm.toList == [113])=true)
 (fr:Nat) (hfr:(fr:Int)=t.p+(⟨t.x.toArray⟩:ByteArray).size) (hfs:fr<=s.size) (pp:PR Qry) (hpl:PlaceOk pp) (hne:∀ a e,pp=.bad a e->e≠0) (hpp:∀ W,Below w.heap.size w W->Calls Tryz.prog 57 #[.string (s.extract fr s.size)] W (QPost W pp)) :
 Calls Tryz.prog 14 #[.string s] w (CmdPost w (innerP (fr:Int) ⟨[],[],[]⟩ pp (fun x => { cmd0 with kind:=(k:Int)+1,q:=x }))):=by
 have HX:=Lib.hid hix
 have HFM2:=Lib.hid hfm
 have hge:Good (.ok (t::c)):=by rw[<-hst];exact startS_good _
 have hwt:wantS 1 [] (.ok (t::c))=(t,.ok c):=by
  show wantT 1 [] (t::c)=_
  unfold wantT
  exact if_pos ⟨hk1,.inl rfl⟩
 have hg1:Good (.ok c):=Ended.cons hge (by rw[hk1];decide)
 have HWT:=Lib.hid hwt
 have HG1:=Lib.hid hg1
 have HK1:=Lib.hid hk1
 clear hge hwt hg1 hix hfm hk1
 have HPP:=Lib.hid hpp
 have HPL:=Lib.hid (And.intro hpl hne)
 have HFR:=Lib.hid hfr
 clear hpp hpl hne hfr
 obtain⟨RES,hRES⟩:∃ RES,innerP (fr:Int) ⟨[],[],[]⟩ pp (fun x => { cmd0 with kind:=(k:Int)+1,q:=x })=RES:=⟨_,rfl⟩
 rw[hRES]
 have HRES:=Lib.hid hRES
 clear hRES
 have hb0:Below w.heap.size w (w.alloc (.cells #[.int .i64 0,.string ⟨#[]⟩,.slice none 0 0,.string ⟨#[]⟩,.slice none 0 0,.slice none 0 0,.slice none 0 0,.string ⟨#[]⟩,.int .i64 0,.int .i64 0,.slice none 0 0] 39)):=balloc (Below.refl _ _) _
 have ho:=refOpen_any s _ hs (hg.below hb0)
 have hgd:Good (.ok (t::c)):=by rw[<-hst];exact startS_good _
 rw[hst] at ho
 have hr0:=Blk.new w 39 #[.int .i64 0,.string ⟨#[]⟩,.slice none 0 0,.string ⟨#[]⟩,.slice none 0 0,.slice none 0 0,.slice none 0 0,.string ⟨#[]⟩,.int .i64 0,.int .i64 0,.slice none 0 0]
 have HO:=Lib.hid ho
 have HR0:=Lib.hid hr0
 have HB0:=Lib.hid hb0
 have HGD:=Lib.hid hgd
 clear ho hr0 hb0 hst hgd
 obtain⟨tkk,x,vk,vn,vs,tp⟩:=t
 simp only at *
 have hxs:(⟨x.toArray⟩:ByteArray).size=x.length:=by simp [ByteArray.size]
 go_enter Tryz.func14,Tryz.ntmps14
 go_wp2_with fail
 refine HO.out.mono ?_
 rintro e w1 ⟨b,vt,rfl,hbs,hln,hb1⟩
 have hbl:w.heap.size<b:=by simp at hbs;omega
 obtain⟨tb0,ib,pb,hld,_⟩:=ln_ok hln
 have e3:=hld.blk.cell 3
 have hel:=hld.blk.lt
 simp only[List.getElem?_toArray,List.getElem?_cons_zero,List.getElem?_cons_succ] at e3
 have HW1:=Lib.hid (refWords_any w1)
 have HB1:=Lib.hid (bt2 HB0.out hb1)
 have HR1:=Lib.hid (HR0.out.below hb1 HR0.out.lt)
 have HLN:=Lib.hid hln
 skip
 clear hb1 hln hld HO HR0 HB0 hbs
 go_wp2_with fail
 refine HW1.out.mono ?_
 rintro e w2 ⟨rfl,hwd,hfm,hb2⟩
 have HWD:=Lib.hid hwd
 have HFM:=Lib.hid hfm
 have HB2:=Lib.hid hb2
 have HNX:=Lib.hid (next_ln (HLN.out.keep hb2))
 have hz2:=hb2.size
 clear hwd hfm hb2 HW1 e3
 unfold Tok.v at HNX
 go_wp2_with fail
 refine HNX.out.mono ?_
 rintro e w3 ⟨rfl,hb3⟩
 have hz3:=hb3.size
 generalize hxb:(⟨x.toArray⟩:ByteArray)=xb at *
 generalize hvb:(⟨vs.toArray⟩:ByteArray)=vb at *
 have bk:Below w3.heap.size w3 ((w3.alloc (.cells #[.int .i64 tkk,.string xb,.int .i64 vk,.int .i64 vn,.string vb,.int .i64 tp] 105)).alloc (.cells #[.int .i64 0,.string ⟨#[]⟩,.slice none 0 0,.string ⟨#[]⟩,.slice none 0 0,.slice none 0 0,.slice none 0 0,.string ⟨#[]⟩,.int .i64 0,.int .i64 0,.slice none 0 0] 39)):=balloc (balloc (Below.refl _ _) _) _
 have hb23:=HB2.out.trans (hb3.mono hz2)
 have hb13:=hb23.trans (bk.mono hb23.size)
 have hb23b:=hb3.trans (bk.mono hz3)
 have hf:DF w ((w3.alloc (.cells #[.int .i64 tkk,.string xb,.int .i64 vk,.int .i64 vn,.string vb,.int .i64 tp] 105)).alloc (.cells #[.int .i64 0,.string ⟨#[]⟩,.slice none 0 0,.string ⟨#[]⟩,.slice none 0 0,.slice none 0 0,.slice none 0 0,.string ⟨#[]⟩,.int .i64 0,.int .i64 0,.slice none 0 0] 39)) b w3.heap.size (w3.heap.size+1) w1.heap.size vt (.ok (⟨tkk,x,vk,vn,vs,tp⟩::c)) #[.int .i64 0,.string ⟨#[]⟩,.slice none 0 0,.string ⟨#[]⟩,.slice none 0 0,.slice none 0 0,.slice none 0 0,.string ⟨#[]⟩,.int .i64 0,.int .i64 0,.slice none 0 0] tkk vk vn tp xb vb :=
  ⟨HR1.out.below hb13 HR1.out.lt,(Blk.new _ _ _).alloc _,blkNew1 _ _ _ _,HLN.out.keep hb13,HGD.out,HWD.out.below hb23b HWD.out.lt,HFM.out.below hb23b HFM.out.lt,HB1.out.trans (hb13.mono HB1.out.size),hbl,by omega,by omega,by omega⟩
 obtain⟨W4,hW4⟩:∃ W4,(w3.alloc (.cells #[.int .i64 tkk,.string xb,.int .i64 vk,.int .i64 vn,.string vb,.int .i64 tp] 105)).alloc (.cells #[.int .i64 0,.string ⟨#[]⟩,.slice none 0 0,.string ⟨#[]⟩,.slice none 0 0,.slice none 0 0,.slice none 0 0,.string ⟨#[]⟩,.int .i64 0,.int .i64 0,.slice none 0 0] 39)=W4:=⟨_,rfl⟩
 rw[hW4] at hf
 have HW4:=Lib.hid hW4
 have HF4:=Lib.hid hf
 have HXB:=Lib.hid (And.intro hxb hvb)
 have z0:=hf.k.cell 0
 have z1:=hf.k.cell 1
 have z5:=hf.k.cell 5
 have zl:=hf.k.lt
 have q0:=hf.q.cell 0
 have qy:=hf.q.frozen 0
 have ql:=hf.q.lt
 simp only[List.getElem?_toArray,List.getElem?_cons_zero,List.getElem?_cons_succ] at z0 z1 z5 q0
 have hsa:StrsAt W4 (.slice (some ⟨w1.heap.size,0,none⟩) 18 18) wordsC:=strs_blk hf.wd (by decide)
 have HSA:=Lib.hid hsa
 clear hb3 bk hb23 hb13 hb23b hf hW4 hxb hvb hsa hel HNX HLN HGD HB1 HR1 HWD HFM HB2
 go_upto_region 7 with fail
 rw[HW4.out]
 have hk1:=HK1.out
 subst hk1
 have hat:=refAt_any W4 _ wordsC x HSA.out
 rw[HX.out,HXB.out.1] at hat
 have HAT:=Lib.hid hat
 have hne0:((k:Int)+1 == 0)=false:=by rw[beq_eq_false_iff_ne];omega
 clear hat
 go_wp2_with fail
 refine HAT.out.mono ?_
 rintro e w5 ⟨rfl,rfl⟩
 have hf5:DF w (W4.setCell ⟨w3.heap.size+1,0,none⟩ (.int .i64 ((k:Int)+1))) b w3.heap.size (w3.heap.size+1) w1.heap.size vt (.ok (⟨1,x,vk,vn,vs,tp⟩::c)) #[.int .i64 ((k:Int)+1),.string ⟨#[]⟩,.slice none 0 0,.string ⟨#[]⟩,.slice none 0 0,.slice none 0 0,.slice none 0 0,.string ⟨#[]⟩,.int .i64 0,.int .i64 0,.slice none 0 0] 1 vk vn tp xb vb:=HF4.out.store 0 (.int .i64 ((k:Int)+1))
 obtain⟨W5,hW5⟩:∃ W5,W4.setCell ⟨w3.heap.size+1,0,none⟩ (.int .i64 ((k:Int)+1))=W5:=⟨_,rfl⟩
 rw[hW5] at hf5
 have HW5:=Lib.hid hW5
 have HF5:=Lib.hid hf5
 have hwn:=want_ln hf5.ln hf5.g 1 []
 rw[HWT.out] at hwn
 unfold Tok.v at hwn
 simp only[HXB.out.1,HXB.out.2] at hwn
 have HWN:=Lib.hid hwn
 clear hf5 hW5 HAT hwn
 go_upto_region 9 with fail
 rw[HW5.out]
 clear z0 z1 z5 zl q0 qy ql
 have q0:=HF5.out.q.cell 0
 have ql:=HF5.out.q.lt
 simp only[List.getElem?_toArray,List.getElem?_cons_zero] at q0
 go_wp2_with fail
 refine HWN.out.mono ?_
 rintro e w6 ⟨rfl,hl6,hm6⟩
 have hf6:=HF5.out.line hm6 hl6 HG1.out
 have HF6:=Lib.hid hf6
 clear q0 ql
 have q0:=hf6.q.cell 0
 have ql:=hf6.q.lt
 have z1:=hf6.k.cell 1
 have z5:=hf6.k.cell 5
 have zl:=hf6.k.lt
 have fk:=hf6.fm.cell k
 have fl:=hf6.fm.lt
 rw[HFM2.out] at fk
 simp only[List.getElem?_toArray,List.getElem?_cons_zero,List.getElem?_cons_succ] at q0 z1 z5
 clear hf6 hl6 hm6 HWN HF5 HW5 HF4 HW4
 clear hxs
 have hfr:=HFR.out
 first | simp only[HXB.out.1] at hfr | skip
 obtain⟨p0,hp0⟩:∃ p0:Nat,tp=(p0:Int):=⟨tp.toNat,by omega⟩
 subst hp0
 have hfr2:fr=p0+xb.size:=by omega
 subst hfr2
 have hcall:=HPP.out w6 HF6.out.bl
 have HCALL:=Lib.hid hcall
 clear hcall HPP hfr
 rw[Int.natCast_add] at HRES
 cases pp with
 | bad a f =>
   have hpa:=HPL.out.1 a f rfl
   have hfn:=HPL.out.2 a f rfl
   have hfn1:(f != 0)=true:=by simpa using hfn
   have hre:=(innerP_bad hfn).symm.trans HRES.out
   subst hre
   go_wp2_with fail
   refine HCALL.out.mono ?_
   rintro e w7 ⟨rfl,hb7⟩
   have hf7:=HF6.out.keep hb7
   have k0:=hf7.q.cell 0
   have ky0:=hf7.q.frozen 0
   have k1:=hf7.q.cell 1
   have ky1:=hf7.q.frozen 1
   have k2:=hf7.q.cell 2
   have ky2:=hf7.q.frozen 2
   have k3:=hf7.q.cell 3
   have ky3:=hf7.q.frozen 3
   have k4:=hf7.q.cell 4
   have ky4:=hf7.q.frozen 4
   have k5:=hf7.q.cell 5
   have ky5:=hf7.q.frozen 5
   have k6:=hf7.q.cell 6
   have ky6:=hf7.q.frozen 6
   have k7:=hf7.q.cell 7
   have ky7:=hf7.q.frozen 7
   have k8:=hf7.q.cell 8
   have ky8:=hf7.q.frozen 8
   have k9:=hf7.q.cell 9
   have ky9:=hf7.q.frozen 9
   have k10:=hf7.q.cell 10
   have ky10:=hf7.q.frozen 10
   have kl:=hf7.q.lt
   simp only[List.getElem?_toArray,List.getElem?_cons_zero,List.getElem?_cons_succ] at k0 k1 k2 k3 k4 k5 k6 k7 k8 k9 k10
   have mm3:MT 0 [39] w7 ((w7).setCell ⟨w3.heap.size+1,3,none⟩ (.string ⟨#[]⟩)):=MT.setCell (MT.refl w7) hf7.q (by simp) (Nat.zero_le _) _
   have hh3:DF w ((w7).setCell ⟨w3.heap.size+1,3,none⟩ (.string ⟨#[]⟩)) b w3.heap.size (w3.heap.size+1) w1.heap.size vt (.ok c) #[.int .i64 ((k:Int)+1),.string ⟨#[]⟩,.slice none 0 0,.string ⟨#[]⟩,.slice none 0 0,.slice none 0 0,.slice none 0 0,.string ⟨#[]⟩,.int .i64 0,.int .i64 0,.slice none 0 0] 1 vk vn (p0:Int) xb vb:=hf7.store 3 (.string ⟨#[]⟩)
   have mm4:MT 0 [39] w7 (((w7).setCell ⟨w3.heap.size+1,3,none⟩ (.string ⟨#[]⟩)).setCell ⟨w3.heap.size+1,4,none⟩ (.slice none 0 0)):=MT.setCell (mm3) hh3.q (by simp) (Nat.zero_le _) _
   have hh4:DF w (((w7).setCell ⟨w3.heap.size+1,3,none⟩ (.string ⟨#[]⟩)).setCell ⟨w3.heap.size+1,4,none⟩ (.slice none 0 0)) b w3.heap.size (w3.heap.size+1) w1.heap.size vt (.ok c) #[.int .i64 ((k:Int)+1),.string ⟨#[]⟩,.slice none 0 0,.string ⟨#[]⟩,.slice none 0 0,.slice none 0 0,.slice none 0 0,.string ⟨#[]⟩,.int .i64 0,.int .i64 0,.slice none 0 0] 1 vk vn (p0:Int) xb vb:=hh3.store 4 (.slice none 0 0)
   have mm5:MT 0 [39] w7 ((((w7).setCell ⟨w3.heap.size+1,3,none⟩ (.string ⟨#[]⟩)).setCell ⟨w3.heap.size+1,4,none⟩ (.slice none 0 0)).setCell ⟨w3.heap.size+1,5,none⟩ (.slice none 0 0)):=MT.setCell (mm4) hh4.q (by simp) (Nat.zero_le _) _
   have hh5:DF w ((((w7).setCell ⟨w3.heap.size+1,3,none⟩ (.string ⟨#[]⟩)).setCell ⟨w3.heap.size+1,4,none⟩ (.slice none 0 0)).setCell ⟨w3.heap.size+1,5,none⟩ (.slice none 0 0)) b w3.heap.size (w3.heap.size+1) w1.heap.size vt (.ok c) #[.int .i64 ((k:Int)+1),.string ⟨#[]⟩,.slice none 0 0,.string ⟨#[]⟩,.slice none 0 0,.slice none 0 0,.slice none 0 0,.string ⟨#[]⟩,.int .i64 0,.int .i64 0,.slice none 0 0] 1 vk vn (p0:Int) xb vb:=hh4.store 5 (.slice none 0 0)
   have HRR:=Lib.hid hh5.r
   have HBB:=Lib.hid hh5.bl
   have r0:=hf7.r.cell 0
   have ry0:=hf7.r.frozen 0
   have r1:=hf7.r.cell 1
   have ry1:=hf7.r.frozen 1
   have r2:=hf7.r.cell 2
   have ry2:=hf7.r.frozen 2
   have r3:=hf7.r.cell 3
   have ry3:=hf7.r.frozen 3
   have r4:=hf7.r.cell 4
   have ry4:=hf7.r.frozen 4
   have r5:=hf7.r.cell 5
   have ry5:=hf7.r.frozen 5
   have r6:=hf7.r.cell 6
   have ry6:=hf7.r.frozen 6
   have r7:=hf7.r.cell 7
   have ry7:=hf7.r.frozen 7
   have r8:=hf7.r.cell 8
   have ry8:=hf7.r.frozen 8
   have r9:=hf7.r.cell 9
   have ry9:=hf7.r.frozen 9
   have r10:=hf7.r.cell 10
   have ry10:=hf7.r.frozen 10
   have rl:=hf7.r.lt
   simp only[List.getElem?_toArray,List.getElem?_cons_zero,List.getElem?_cons_succ] at r0 r1 r2 r3 r4 r5 r6 r7 r8 r9 r10
   have hlt:=hh5.hc
   clear hb7 hf7 mm3 hh3 mm4 hh4 mm5 hh5 HF6 HCALL HRES q0 ql z1 z5 zl fk fl
   go_wp2_with fail
   rw[blk11_self HRR.out]
   exact refCmd_ret HRR.out rfl rfl rfl ⟨rfl,HBB.out⟩
 | ok x7 c7 =>
   have hre:=(innerP_ok _ _ _ _ _).symm.trans HRES.out
   subst hre
   go_wp2_with fail
   refine HCALL.out.mono ?_
   rintro e w7 ⟨hv,av,rfl,ho,ho2,hb7⟩
   obtain⟨ad,cap,rfl⟩:=own_sl ho
   obtain⟨ad2,cap2,rfl⟩:=atoms_sl ho2
   have hf7:=HF6.out.keep hb7
   have hsz:w.heap.size<=w6.heap.size:=HF6.out.bl.size
   have k0:=hf7.q.cell 0
   have ky0:=hf7.q.frozen 0
   have k1:=hf7.q.cell 1
   have ky1:=hf7.q.frozen 1
   have k2:=hf7.q.cell 2
   have ky2:=hf7.q.frozen 2
   have k3:=hf7.q.cell 3
   have ky3:=hf7.q.frozen 3
   have k4:=hf7.q.cell 4
   have ky4:=hf7.q.frozen 4
   have k5:=hf7.q.cell 5
   have ky5:=hf7.q.frozen 5
   have k6:=hf7.q.cell 6
   have ky6:=hf7.q.frozen 6
   have k7:=hf7.q.cell 7
   have ky7:=hf7.q.frozen 7
   have k8:=hf7.q.cell 8
   have ky8:=hf7.q.frozen 8
   have k9:=hf7.q.cell 9
   have ky9:=hf7.q.frozen 9
   have k10:=hf7.q.cell 10
   have ky10:=hf7.q.frozen 10
   have kl:=hf7.q.lt
   simp only[List.getElem?_toArray,List.getElem?_cons_zero,List.getElem?_cons_succ] at k0 k1 k2 k3 k4 k5 k6 k7 k8 k9 k10
   have mm3:MT 0 [39] w7 ((w7).setCell ⟨w3.heap.size+1,3,none⟩ (.string ⟨x7.name.toArray⟩)):=MT.setCell (MT.refl w7) hf7.q (by simp) (Nat.zero_le _) _
   have hh3:DF w ((w7).setCell ⟨w3.heap.size+1,3,none⟩ (.string ⟨x7.name.toArray⟩)) b w3.heap.size (w3.heap.size+1) w1.heap.size vt (.ok c) #[.int .i64 ((k:Int)+1),.string ⟨#[]⟩,.slice none 0 0,.string ⟨x7.name.toArray⟩,.slice none 0 0,.slice none 0 0,.slice none 0 0,.string ⟨#[]⟩,.int .i64 0,.int .i64 0,.slice none 0 0] 1 vk vn (p0:Int) xb vb:=hf7.store 3 (.string ⟨x7.name.toArray⟩)
   have mm4:MT 0 [39] w7 (((w7).setCell ⟨w3.heap.size+1,3,none⟩ (.string ⟨x7.name.toArray⟩)).setCell ⟨w3.heap.size+1,4,none⟩ (.slice ad x7.head.length cap)):=MT.setCell (mm3) hh3.q (by simp) (Nat.zero_le _) _
   have hh4:DF w (((w7).setCell ⟨w3.heap.size+1,3,none⟩ (.string ⟨x7.name.toArray⟩)).setCell ⟨w3.heap.size+1,4,none⟩ (.slice ad x7.head.length cap)) b w3.heap.size (w3.heap.size+1) w1.heap.size vt (.ok c) #[.int .i64 ((k:Int)+1),.string ⟨#[]⟩,.slice none 0 0,.string ⟨x7.name.toArray⟩,.slice ad x7.head.length cap,.slice none 0 0,.slice none 0 0,.string ⟨#[]⟩,.int .i64 0,.int .i64 0,.slice none 0 0] 1 vk vn (p0:Int) xb vb:=hh3.store 4 (.slice ad x7.head.length cap)
   have mm5:MT 0 [39] w7 ((((w7).setCell ⟨w3.heap.size+1,3,none⟩ (.string ⟨x7.name.toArray⟩)).setCell ⟨w3.heap.size+1,4,none⟩ (.slice ad x7.head.length cap)).setCell ⟨w3.heap.size+1,5,none⟩ (.slice ad2 x7.atoms.length cap2)):=MT.setCell (mm4) hh4.q (by simp) (Nat.zero_le _) _
   have hh5:DF w ((((w7).setCell ⟨w3.heap.size+1,3,none⟩ (.string ⟨x7.name.toArray⟩)).setCell ⟨w3.heap.size+1,4,none⟩ (.slice ad x7.head.length cap)).setCell ⟨w3.heap.size+1,5,none⟩ (.slice ad2 x7.atoms.length cap2)) b w3.heap.size (w3.heap.size+1) w1.heap.size vt (.ok c) #[.int .i64 ((k:Int)+1),.string ⟨#[]⟩,.slice none 0 0,.string ⟨x7.name.toArray⟩,.slice ad x7.head.length cap,.slice ad2 x7.atoms.length cap2,.slice none 0 0,.string ⟨#[]⟩,.int .i64 0,.int .i64 0,.slice none 0 0] 1 vk vn (p0:Int) xb vb:=hh4.store 5 (.slice ad2 x7.atoms.length cap2)
   have OWN:Hid (CmdOwn w.heap.size ((((w7).setCell ⟨w3.heap.size+1,3,none⟩ (.string ⟨x7.name.toArray⟩)).setCell ⟨w3.heap.size+1,4,none⟩ (.slice ad x7.head.length cap)).setCell ⟨w3.heap.size+1,5,none⟩ (.slice ad2 x7.atoms.length cap2)) #[.int .i64 ((k:Int)+1),.string ⟨#[]⟩,.slice none 0 0,.string ⟨x7.name.toArray⟩,.slice ad x7.head.length cap,.slice ad2 x7.atoms.length cap2,.slice none 0 0,.string ⟨#[]⟩,.int .i64 0,.int .i64 0,.slice none 0 0] ((fun x => { cmd0 with kind:=(k:Int)+1,q:=x }) x7)):=Lib.hid ⟨_,_,_,_,_,rfl,World.ownsRow_nil _ _ _ _,(mm5.ownsRow (World.ownsRow.low ho hsz) (by decide)),((ho2.low hsz).mt mm5 (by decide) (by decide)),chgs_nil _ _,World.ownsRow_nil _ _ _ _⟩
   have HF9:=Lib.hid hh5
   have HRZ:=Lib.hid hh5.r
   obtain⟨W9,hW9⟩:∃ W9,(((w7).setCell ⟨w3.heap.size+1,3,none⟩ (.string ⟨x7.name.toArray⟩)).setCell ⟨w3.heap.size+1,4,none⟩ (.slice ad x7.head.length cap)).setCell ⟨w3.heap.size+1,5,none⟩ (.slice ad2 x7.atoms.length cap2)=W9:=⟨_,rfl⟩
   rw[hW9] at HF9 OWN HRZ
   have HW9:=Lib.hid hW9
   clear hb7 hf7 mm3 hh3 mm4 hh4 mm5 hh5 hW9 HF6 HCALL HRES q0 ql z1 z5 zl fk fl
   go_upto_region 26 with fail
   rw[HW9.out]
   clear k0 ky0 k1 ky1 k2 ky2 k3 ky3 k4 ky4 k5 ky5 k6 ky6 k7 ky7 k8 ky8 k9 ky9 k10 ky10 kl
   have k0:=HF9.out.q.cell 0
   have ky0:=HF9.out.q.frozen 0
   have k1:=HF9.out.q.cell 1
   have ky1:=HF9.out.q.frozen 1
   have k2:=HF9.out.q.cell 2
   have ky2:=HF9.out.q.frozen 2
   have k3:=HF9.out.q.cell 3
   have ky3:=HF9.out.q.frozen 3
   have k4:=HF9.out.q.cell 4
   have ky4:=HF9.out.q.frozen 4
   have k5:=HF9.out.q.cell 5
   have ky5:=HF9.out.q.frozen 5
   have k6:=HF9.out.q.cell 6
   have ky6:=HF9.out.q.frozen 6
   have k7:=HF9.out.q.cell 7
   have ky7:=HF9.out.q.frozen 7
   have k8:=HF9.out.q.cell 8
   have ky8:=HF9.out.q.frozen 8
   have k9:=HF9.out.q.cell 9
   have ky9:=HF9.out.q.frozen 9
   have k10:=HF9.out.q.cell 10
   have ky10:=HF9.out.q.frozen 10
   have kl:=HF9.out.q.lt
   simp only[List.getElem?_toArray,List.getElem?_cons_zero,List.getElem?_cons_succ] at k0 k1 k2 k3 k4 k5 k6 k7 k8 k9 k10
   go_wp2_with (refine wpList_store_blk rfl 39 _ _ rfl w.heap.size 39 _ _ rfl rfl HF9.out.r (by kernel_rfl) rfl (by simp [Value.oneCell']) ?_)
   intro wz hbz hmz hzz
   have mz:MT w.heap.size [39] W9 wz:=MT.ofMod hmz HF9.out.r (by simp) (Nat.le_refl _)
   have HBZ:=Lib.hid hbz
   have HPZ:=Lib.hid (And.intro (CmdOwn.mt OWN.out mz (by decide) (by decide) (by decide) (by decide) (by decide) (by decide)) (HF9.out.bl.trans (mz.below HF9.out.bl.size)))
   clear hbz hmz hzz mz k0 ky0 k1 ky1 k2 ky2 k3 ky3 k4 ky4 k5 ky5 k6 ky6 k7 ky7 k8 ky8 k9 ky9 k10 ky10 kl
   go_wp2_with fail
   exact refCmd_ret HBZ.out rfl rfl rfl ⟨_,rfl,HPZ.out.1,HPZ.out.2⟩
set_option maxHeartbeats 4000000 in
set_option maxRecDepth 100000 in
theorem ref25_B (s:ByteArray) (w:World) (hs:s.size<=281474976710656) (hg:Glob w) (t:Tok) (c:List Tok) (hst:startS (lexR s.data.toList)=.ok (t::c)) (k:Nat) (hk18:k<18) (hk1:t.k=1) (hix:idxI wordsC t.x=k) (h0p:0<=t.p) (h1p:t.p+(⟨t.x.toArray⟩:ByteArray).size<=281474976710656) (fm:ByteArray) (hfm:(formsC.map fun s=>Value.string ⟨s.toArray⟩).toArray[k]? = some (.string fm)) (hd:(fm.toList == [100])=false) (hq:(fm.toList == [113])=false) (hbb:(fm.toList == [98])=true)
 (fr:Nat) (hfr:(fr:Int)=t.p+(⟨t.x.toArray⟩:ByteArray).size) (hfs:fr<=s.size) (pp:PR (List Chg)) (hpl:PlaceOk pp) (hne:∀ a e,pp=.bad a e->e≠0) (hpp:∀ W,Below w.heap.size w W->Calls Tryz.prog 58 #[.string (s.extract fr s.size)] W (BPost W pp)) :
 Calls Tryz.prog 14 #[.string s] w (CmdPost w (innerP (fr:Int) [] pp (fun x => { cmd0 with kind:=(k:Int)+1,b:=x }))):=by
 have HX:=Lib.hid hix
 have HFM2:=Lib.hid hfm
 have hge:Good (.ok (t::c)):=by rw[<-hst];exact startS_good _
 have hwt:wantS 1 [] (.ok (t::c))=(t,.ok c):=by
  show wantT 1 [] (t::c)=_
  unfold wantT
  exact if_pos ⟨hk1,.inl rfl⟩
 have hg1:Good (.ok c):=Ended.cons hge (by rw[hk1];decide)
 have HWT:=Lib.hid hwt
 have HG1:=Lib.hid hg1
 have HK1:=Lib.hid hk1
 clear hge hwt hg1 hix hfm hk1
 have HPP:=Lib.hid hpp
 have HPL:=Lib.hid (And.intro hpl hne)
 have HFR:=Lib.hid hfr
 clear hpp hpl hne hfr
 obtain⟨RES,hRES⟩:∃ RES,innerP (fr:Int) [] pp (fun x => { cmd0 with kind:=(k:Int)+1,b:=x })=RES:=⟨_,rfl⟩
 rw[hRES]
 have HRES:=Lib.hid hRES
 clear hRES
 have hb0:Below w.heap.size w (w.alloc (.cells #[.int .i64 0,.string ⟨#[]⟩,.slice none 0 0,.string ⟨#[]⟩,.slice none 0 0,.slice none 0 0,.slice none 0 0,.string ⟨#[]⟩,.int .i64 0,.int .i64 0,.slice none 0 0] 39)):=balloc (Below.refl _ _) _
 have ho:=refOpen_any s _ hs (hg.below hb0)
 have hgd:Good (.ok (t::c)):=by rw[<-hst];exact startS_good _
 rw[hst] at ho
 have hr0:=Blk.new w 39 #[.int .i64 0,.string ⟨#[]⟩,.slice none 0 0,.string ⟨#[]⟩,.slice none 0 0,.slice none 0 0,.slice none 0 0,.string ⟨#[]⟩,.int .i64 0,.int .i64 0,.slice none 0 0]
 have HO:=Lib.hid ho
 have HR0:=Lib.hid hr0
 have HB0:=Lib.hid hb0
 have HGD:=Lib.hid hgd
 clear ho hr0 hb0 hst hgd
 obtain⟨tkk,x,vk,vn,vs,tp⟩:=t
 simp only at *
 have hxs:(⟨x.toArray⟩:ByteArray).size=x.length:=by simp [ByteArray.size]
 go_enter Tryz.func14,Tryz.ntmps14
 go_wp2_with fail
 refine HO.out.mono ?_
 rintro e w1 ⟨b,vt,rfl,hbs,hln,hb1⟩
 have hbl:w.heap.size<b:=by simp at hbs;omega
 obtain⟨tb0,ib,pb,hld,_⟩:=ln_ok hln
 have e3:=hld.blk.cell 3
 have hel:=hld.blk.lt
 simp only[List.getElem?_toArray,List.getElem?_cons_zero,List.getElem?_cons_succ] at e3
 have HW1:=Lib.hid (refWords_any w1)
 have HB1:=Lib.hid (bt2 HB0.out hb1)
 have HR1:=Lib.hid (HR0.out.below hb1 HR0.out.lt)
 have HLN:=Lib.hid hln
 skip
 clear hb1 hln hld HO HR0 HB0 hbs
 go_wp2_with fail
 refine HW1.out.mono ?_
 rintro e w2 ⟨rfl,hwd,hfm,hb2⟩
 have HWD:=Lib.hid hwd
 have HFM:=Lib.hid hfm
 have HB2:=Lib.hid hb2
 have HNX:=Lib.hid (next_ln (HLN.out.keep hb2))
 have hz2:=hb2.size
 clear hwd hfm hb2 HW1 e3
 unfold Tok.v at HNX
 go_wp2_with fail
 refine HNX.out.mono ?_
 rintro e w3 ⟨rfl,hb3⟩
 have hz3:=hb3.size
 generalize hxb:(⟨x.toArray⟩:ByteArray)=xb at *
 generalize hvb:(⟨vs.toArray⟩:ByteArray)=vb at *
 have bk:Below w3.heap.size w3 ((w3.alloc (.cells #[.int .i64 tkk,.string xb,.int .i64 vk,.int .i64 vn,.string vb,.int .i64 tp] 105)).alloc (.cells #[.int .i64 0,.string ⟨#[]⟩,.slice none 0 0,.string ⟨#[]⟩,.slice none 0 0,.slice none 0 0,.slice none 0 0,.string ⟨#[]⟩,.int .i64 0,.int .i64 0,.slice none 0 0] 39)):=balloc (balloc (Below.refl _ _) _) _
 have hb23:=HB2.out.trans (hb3.mono hz2)
 have hb13:=hb23.trans (bk.mono hb23.size)
 have hb23b:=hb3.trans (bk.mono hz3)
 have hf:DF w ((w3.alloc (.cells #[.int .i64 tkk,.string xb,.int .i64 vk,.int .i64 vn,.string vb,.int .i64 tp] 105)).alloc (.cells #[.int .i64 0,.string ⟨#[]⟩,.slice none 0 0,.string ⟨#[]⟩,.slice none 0 0,.slice none 0 0,.slice none 0 0,.string ⟨#[]⟩,.int .i64 0,.int .i64 0,.slice none 0 0] 39)) b w3.heap.size (w3.heap.size+1) w1.heap.size vt (.ok (⟨tkk,x,vk,vn,vs,tp⟩::c)) #[.int .i64 0,.string ⟨#[]⟩,.slice none 0 0,.string ⟨#[]⟩,.slice none 0 0,.slice none 0 0,.slice none 0 0,.string ⟨#[]⟩,.int .i64 0,.int .i64 0,.slice none 0 0] tkk vk vn tp xb vb :=
  ⟨HR1.out.below hb13 HR1.out.lt,(Blk.new _ _ _).alloc _,blkNew1 _ _ _ _,HLN.out.keep hb13,HGD.out,HWD.out.below hb23b HWD.out.lt,HFM.out.below hb23b HFM.out.lt,HB1.out.trans (hb13.mono HB1.out.size),hbl,by omega,by omega,by omega⟩
 obtain⟨W4,hW4⟩:∃ W4,(w3.alloc (.cells #[.int .i64 tkk,.string xb,.int .i64 vk,.int .i64 vn,.string vb,.int .i64 tp] 105)).alloc (.cells #[.int .i64 0,.string ⟨#[]⟩,.slice none 0 0,.string ⟨#[]⟩,.slice none 0 0,.slice none 0 0,.slice none 0 0,.string ⟨#[]⟩,.int .i64 0,.int .i64 0,.slice none 0 0] 39)=W4:=⟨_,rfl⟩
 rw[hW4] at hf
 have HW4:=Lib.hid hW4
 have HF4:=Lib.hid hf
 have HXB:=Lib.hid (And.intro hxb hvb)
 have z0:=hf.k.cell 0
 have z1:=hf.k.cell 1
 have z5:=hf.k.cell 5
 have zl:=hf.k.lt
 have q0:=hf.q.cell 0
 have qy:=hf.q.frozen 0
 have ql:=hf.q.lt
 simp only[List.getElem?_toArray,List.getElem?_cons_zero,List.getElem?_cons_succ] at z0 z1 z5 q0
 have hsa:StrsAt W4 (.slice (some ⟨w1.heap.size,0,none⟩) 18 18) wordsC:=strs_blk hf.wd (by decide)
 have HSA:=Lib.hid hsa
 clear hb3 bk hb23 hb13 hb23b hf hW4 hxb hvb hsa hel HNX HLN HGD HB1 HR1 HWD HFM HB2
 go_upto_region 7 with fail
 rw[HW4.out]
 have hk1:=HK1.out
 subst hk1
 have hat:=refAt_any W4 _ wordsC x HSA.out
 rw[HX.out,HXB.out.1] at hat
 have HAT:=Lib.hid hat
 have hne0:((k:Int)+1 == 0)=false:=by rw[beq_eq_false_iff_ne];omega
 clear hat
 go_wp2_with fail
 refine HAT.out.mono ?_
 rintro e w5 ⟨rfl,rfl⟩
 have hf5:DF w (W4.setCell ⟨w3.heap.size+1,0,none⟩ (.int .i64 ((k:Int)+1))) b w3.heap.size (w3.heap.size+1) w1.heap.size vt (.ok (⟨1,x,vk,vn,vs,tp⟩::c)) #[.int .i64 ((k:Int)+1),.string ⟨#[]⟩,.slice none 0 0,.string ⟨#[]⟩,.slice none 0 0,.slice none 0 0,.slice none 0 0,.string ⟨#[]⟩,.int .i64 0,.int .i64 0,.slice none 0 0] 1 vk vn tp xb vb:=HF4.out.store 0 (.int .i64 ((k:Int)+1))
 obtain⟨W5,hW5⟩:∃ W5,W4.setCell ⟨w3.heap.size+1,0,none⟩ (.int .i64 ((k:Int)+1))=W5:=⟨_,rfl⟩
 rw[hW5] at hf5
 have HW5:=Lib.hid hW5
 have HF5:=Lib.hid hf5
 have hwn:=want_ln hf5.ln hf5.g 1 []
 rw[HWT.out] at hwn
 unfold Tok.v at hwn
 simp only[HXB.out.1,HXB.out.2] at hwn
 have HWN:=Lib.hid hwn
 clear hf5 hW5 HAT hwn
 go_upto_region 9 with fail
 rw[HW5.out]
 clear z0 z1 z5 zl q0 qy ql
 have q0:=HF5.out.q.cell 0
 have ql:=HF5.out.q.lt
 simp only[List.getElem?_toArray,List.getElem?_cons_zero] at q0
 go_wp2_with fail
 refine HWN.out.mono ?_
 rintro e w6 ⟨rfl,hl6,hm6⟩
 have hf6:=HF5.out.line hm6 hl6 HG1.out
 have HF6:=Lib.hid hf6
 clear q0 ql
 have q0:=hf6.q.cell 0
 have ql:=hf6.q.lt
 have z1:=hf6.k.cell 1
 have z5:=hf6.k.cell 5
 have zl:=hf6.k.lt
 have fk:=hf6.fm.cell k
 have fl:=hf6.fm.lt
 rw[HFM2.out] at fk
 simp only[List.getElem?_toArray,List.getElem?_cons_zero,List.getElem?_cons_succ] at q0 z1 z5
 clear hf6 hl6 hm6 HWN HF5 HW5 HF4 HW4
 clear hxs
 have hfr:=HFR.out
 first | simp only[HXB.out.1] at hfr | skip
 obtain⟨p0,hp0⟩:∃ p0:Nat,tp=(p0:Int):=⟨tp.toNat,by omega⟩
 subst hp0
 have hfr2:fr=p0+xb.size:=by omega
 subst hfr2
 have hcall:=HPP.out w6 HF6.out.bl
 have HCALL:=Lib.hid hcall
 clear hcall HPP hfr
 rw[Int.natCast_add] at HRES
 cases pp with
 | bad a f =>
   have hpa:=HPL.out.1 a f rfl
   have hfn:=HPL.out.2 a f rfl
   have hfn1:(f != 0)=true:=by simpa using hfn
   have hre:=(innerP_bad hfn).symm.trans HRES.out
   subst hre
   go_wp2_with fail
   refine HCALL.out.mono ?_
   rintro e w7 ⟨rfl,hb7⟩
   have hf7:=HF6.out.keep hb7
   have k0:=hf7.q.cell 0
   have ky0:=hf7.q.frozen 0
   have k1:=hf7.q.cell 1
   have ky1:=hf7.q.frozen 1
   have k2:=hf7.q.cell 2
   have ky2:=hf7.q.frozen 2
   have k3:=hf7.q.cell 3
   have ky3:=hf7.q.frozen 3
   have k4:=hf7.q.cell 4
   have ky4:=hf7.q.frozen 4
   have k5:=hf7.q.cell 5
   have ky5:=hf7.q.frozen 5
   have k6:=hf7.q.cell 6
   have ky6:=hf7.q.frozen 6
   have k7:=hf7.q.cell 7
   have ky7:=hf7.q.frozen 7
   have k8:=hf7.q.cell 8
   have ky8:=hf7.q.frozen 8
   have k9:=hf7.q.cell 9
   have ky9:=hf7.q.frozen 9
   have k10:=hf7.q.cell 10
   have ky10:=hf7.q.frozen 10
   have kl:=hf7.q.lt
   simp only[List.getElem?_toArray,List.getElem?_cons_zero,List.getElem?_cons_succ] at k0 k1 k2 k3 k4 k5 k6 k7 k8 k9 k10
   have mm6:MT 0 [39] w7 ((w7).setCell ⟨w3.heap.size+1,6,none⟩ (.slice none 0 0)):=MT.setCell (MT.refl w7) hf7.q (by simp) (Nat.zero_le _) _
   have hh6:DF w ((w7).setCell ⟨w3.heap.size+1,6,none⟩ (.slice none 0 0)) b w3.heap.size (w3.heap.size+1) w1.heap.size vt (.ok c) #[.int .i64 ((k:Int)+1),.string ⟨#[]⟩,.slice none 0 0,.string ⟨#[]⟩,.slice none 0 0,.slice none 0 0,.slice none 0 0,.string ⟨#[]⟩,.int .i64 0,.int .i64 0,.slice none 0 0] 1 vk vn (p0:Int) xb vb:=hf7.store 6 (.slice none 0 0)
   have HRR:=Lib.hid hh6.r
   have HBB:=Lib.hid hh6.bl
   have r0:=hf7.r.cell 0
   have ry0:=hf7.r.frozen 0
   have r1:=hf7.r.cell 1
   have ry1:=hf7.r.frozen 1
   have r2:=hf7.r.cell 2
   have ry2:=hf7.r.frozen 2
   have r3:=hf7.r.cell 3
   have ry3:=hf7.r.frozen 3
   have r4:=hf7.r.cell 4
   have ry4:=hf7.r.frozen 4
   have r5:=hf7.r.cell 5
   have ry5:=hf7.r.frozen 5
   have r6:=hf7.r.cell 6
   have ry6:=hf7.r.frozen 6
   have r7:=hf7.r.cell 7
   have ry7:=hf7.r.frozen 7
   have r8:=hf7.r.cell 8
   have ry8:=hf7.r.frozen 8
   have r9:=hf7.r.cell 9
   have ry9:=hf7.r.frozen 9
   have r10:=hf7.r.cell 10
   have ry10:=hf7.r.frozen 10
   have rl:=hf7.r.lt
   simp only[List.getElem?_toArray,List.getElem?_cons_zero,List.getElem?_cons_succ] at r0 r1 r2 r3 r4 r5 r6 r7 r8 r9 r10
   have hlt:=hh6.hc
   clear hb7 hf7 mm6 hh6 HF6 HCALL HRES q0 ql z1 z5 zl fk fl
   go_wp2_with fail
   rw[blk11_self HRR.out]
   exact refCmd_ret HRR.out rfl rfl rfl ⟨rfl,HBB.out⟩
 | ok x7 c7 =>
   have hre:=(innerP_ok _ _ _ _ _).symm.trans HRES.out
   subst hre
   go_wp2_with fail
   refine HCALL.out.mono ?_
   rintro e w7 ⟨bv,rfl,ho,hb7⟩
   have hown:=ho
   obtain⟨_,hsl,_⟩:=hown
   obtain⟨ad,cap,rfl⟩:=own_sl hsl
   clear hsl
   have hf7:=HF6.out.keep hb7
   have hsz:w.heap.size<=w6.heap.size:=HF6.out.bl.size
   have k0:=hf7.q.cell 0
   have ky0:=hf7.q.frozen 0
   have k1:=hf7.q.cell 1
   have ky1:=hf7.q.frozen 1
   have k2:=hf7.q.cell 2
   have ky2:=hf7.q.frozen 2
   have k3:=hf7.q.cell 3
   have ky3:=hf7.q.frozen 3
   have k4:=hf7.q.cell 4
   have ky4:=hf7.q.frozen 4
   have k5:=hf7.q.cell 5
   have ky5:=hf7.q.frozen 5
   have k6:=hf7.q.cell 6
   have ky6:=hf7.q.frozen 6
   have k7:=hf7.q.cell 7
   have ky7:=hf7.q.frozen 7
   have k8:=hf7.q.cell 8
   have ky8:=hf7.q.frozen 8
   have k9:=hf7.q.cell 9
   have ky9:=hf7.q.frozen 9
   have k10:=hf7.q.cell 10
   have ky10:=hf7.q.frozen 10
   have kl:=hf7.q.lt
   simp only[List.getElem?_toArray,List.getElem?_cons_zero,List.getElem?_cons_succ] at k0 k1 k2 k3 k4 k5 k6 k7 k8 k9 k10
   have mm6:MT 0 [39] w7 ((w7).setCell ⟨w3.heap.size+1,6,none⟩ (.slice ad x7.length cap)):=MT.setCell (MT.refl w7) hf7.q (by simp) (Nat.zero_le _) _
   have hh6:DF w ((w7).setCell ⟨w3.heap.size+1,6,none⟩ (.slice ad x7.length cap)) b w3.heap.size (w3.heap.size+1) w1.heap.size vt (.ok c) #[.int .i64 ((k:Int)+1),.string ⟨#[]⟩,.slice none 0 0,.string ⟨#[]⟩,.slice none 0 0,.slice none 0 0,.slice ad x7.length cap,.string ⟨#[]⟩,.int .i64 0,.int .i64 0,.slice none 0 0] 1 vk vn (p0:Int) xb vb:=hf7.store 6 (.slice ad x7.length cap)
   have OWN:Hid (CmdOwn w.heap.size ((w7).setCell ⟨w3.heap.size+1,6,none⟩ (.slice ad x7.length cap)) #[.int .i64 ((k:Int)+1),.string ⟨#[]⟩,.slice none 0 0,.string ⟨#[]⟩,.slice none 0 0,.slice none 0 0,.slice ad x7.length cap,.string ⟨#[]⟩,.int .i64 0,.int .i64 0,.slice none 0 0] ((fun x => { cmd0 with kind:=(k:Int)+1,b:=x }) x7)):=Lib.hid ⟨_,_,_,_,_,rfl,World.ownsRow_nil _ _ _ _,World.ownsRow_nil _ _ _ _,atoms_nil _ _,((ho.low hsz).mt mm6 (by decide) (by decide)),World.ownsRow_nil _ _ _ _⟩
   have HF9:=Lib.hid hh6
   have HRZ:=Lib.hid hh6.r
   obtain⟨W9,hW9⟩:∃ W9,(w7).setCell ⟨w3.heap.size+1,6,none⟩ (.slice ad x7.length cap)=W9:=⟨_,rfl⟩
   rw[hW9] at HF9 OWN HRZ
   have HW9:=Lib.hid hW9
   clear hb7 hf7 mm6 hh6 hW9 HF6 HCALL HRES q0 ql z1 z5 zl fk fl
   go_upto_region 26 with fail
   rw[HW9.out]
   clear k0 ky0 k1 ky1 k2 ky2 k3 ky3 k4 ky4 k5 ky5 k6 ky6 k7 ky7 k8 ky8 k9 ky9 k10 ky10 kl
   have k0:=HF9.out.q.cell 0
   have ky0:=HF9.out.q.frozen 0
   have k1:=HF9.out.q.cell 1
   have ky1:=HF9.out.q.frozen 1
   have k2:=HF9.out.q.cell 2
   have ky2:=HF9.out.q.frozen 2
   have k3:=HF9.out.q.cell 3
   have ky3:=HF9.out.q.frozen 3
   have k4:=HF9.out.q.cell 4
   have ky4:=HF9.out.q.frozen 4
   have k5:=HF9.out.q.cell 5
   have ky5:=HF9.out.q.frozen 5
   have k6:=HF9.out.q.cell 6
   have ky6:=HF9.out.q.frozen 6
   have k7:=HF9.out.q.cell 7
   have ky7:=HF9.out.q.frozen 7
   have k8:=HF9.out.q.cell 8
   have ky8:=HF9.out.q.frozen 8
   have k9:=HF9.out.q.cell 9
   have ky9:=HF9.out.q.frozen 9
   have k10:=HF9.out.q.cell 10
   have ky10:=HF9.out.q.frozen 10
   have kl:=HF9.out.q.lt
   simp only[List.getElem?_toArray,List.getElem?_cons_zero,List.getElem?_cons_succ] at k0 k1 k2 k3 k4 k5 k6 k7 k8 k9 k10
   go_wp2_with (refine wpList_store_blk rfl 39 _ _ rfl w.heap.size 39 _ _ rfl rfl HF9.out.r (by kernel_rfl) rfl (by simp [Value.oneCell']) ?_)
   intro wz hbz hmz hzz
   have mz:MT w.heap.size [39] W9 wz:=MT.ofMod hmz HF9.out.r (by simp) (Nat.le_refl _)
   have HBZ:=Lib.hid hbz
   have HPZ:=Lib.hid (And.intro (CmdOwn.mt OWN.out mz (by decide) (by decide) (by decide) (by decide) (by decide) (by decide)) (HF9.out.bl.trans (mz.below HF9.out.bl.size)))
   clear hbz hmz hzz mz k0 ky0 k1 ky1 k2 ky2 k3 ky3 k4 ky4 k5 ky5 k6 ky6 k7 ky7 k8 ky8 k9 ky9 k10 ky10 kl
   go_wp2_with fail
   exact refCmd_ret HBZ.out rfl rfl rfl ⟨_,rfl,HPZ.out.1,HPZ.out.2⟩
end Go.Proofs.YtamjadghncnbcaaGreatDoor
