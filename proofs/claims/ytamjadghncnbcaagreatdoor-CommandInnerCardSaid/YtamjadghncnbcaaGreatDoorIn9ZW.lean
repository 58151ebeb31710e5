/- CommandInner, walked (printed by mkin9.py). -/
import Derived.Test.YtamjadghncnbcaaGreatDoorBkW
import Derived.Test.YtamjadghncnbcaaGreatDoorDdW
import Derived.Test.YtamjadghncnbcaaGreatDoorTsW
import Derived.Test.YtamjadghncnbcaaGreatDoorKfW
import Derived.Test.YtamjadghncnbcaaGreatDoorDwW
namespace Go.Proofs.YtamjadghncnbcaaGreatDoor
open Go.RowKit
set_option linter.unusedVariables false
theorem Held.skip {P:Program} {md:Region.Mode} {ops:Array Oper} {Q:Exit->Act->World->Prop} {S:World->Prop} (i d:Nat) {oi:Oper} {f:Nat} {l:Array Bool} {a:Act} {w:World} (hi:ops[i]? = some oi) (hd:oi.dst=some d) (hs:Region.noSelect ops=true) (hf:Region.free md ops l i=true) (hr:(Region.ready md ops l).contains i=true)
 (hQ:∀ c (a:Act) (t:Array Value) w,Q (.panic c) { a with tmps:=t } w->Q (.panic c) a w) (hw:Region.wanted oi (yielded ops a.tmps)=false) (hS:S w)
 (h:wpAnyH P md ops Q S f (l.setIfInBounds i true) { a with tmps:=a.tmps.setIfInBounds d undef } w):wpAnyH P md ops Q S (f+1) l a w:=by
 refine wpAnyH_take (v:=undef) hi hs hf hr (fun c a' w' hh=>?_) (.inr ⟨hw,rfl⟩) hS ?_
 ·rw[hd] at hh
  exact hQ c a' _ w' hh
 ·rw[hd]
  exact h
structure IFr (w wr:World) (b6 b9 b69:Nat) (qc:Array Value) (B:Nat) (hv av:Value) (q:Qry):Prop where
 b:Below w.heap.size w wr
 q6:∃ cs:Array Value,cs.size=11/\Blk wr b6 34 cs
 q9:Blk wr b9 29 qc
 q69:Blk wr b69 9 #[.string ⟨#[118,105,101,119,32]⟩,.string ⟨#[99,111,114,101,32]⟩,.string ⟨#[99,108,97,115,115,32]⟩]
 o1:OwnS B wr hv q.head
 o2:AtomsOwn B wr av q.atoms
section
variable {w wr wr' : World} {b6 b9 b69 B : Nat} {qc : Array Value} {hv av : Value} {q : Qry}
theorem IFr.keep (h:IFr w wr b6 b9 b69 qc B hv av q) (hb:Below wr.heap.size wr wr'):IFr w wr' b6 b9 b69 qc B hv av q:=by
 have m:MT 0 [34] wr wr':=MT.ofBelow hb
 obtain⟨cs,hz,hq⟩:=h.q6
 exact⟨h.b.trans (hb.mono h.b.size),⟨cs,hz,hq.below hb hq.lt⟩,h.q9.below hb h.q9.lt,h.q69.below hb h.q69.lt,m.ownsRow h.o1 (by decide),h.o2.mt m (by decide) (by decide)⟩
theorem IFr.put (h:IFr w wr b6 b9 b69 qc B hv av q) {cs cs0:Array Value} (h6:w.heap.size<=b6) (hq:Blk wr' b6 34 cs) (hz:cs.size=11) (hm:Mod (fun k=>k=b6) wr wr') (ho:Blk wr b6 34 cs0):IFr w wr' b6 b9 b69 qc B hv av q:=by
 have m:MT 0 [34] wr wr':=MT.ofMod hm ho (by simp) (Nat.zero_le _)
 exact⟨Mod.own h.b hm h6,⟨cs,hz,hq⟩,h.q9.mt m (by decide),h.q69.mt m (by decide),m.ownsRow h.o1 (by decide),h.o2.mt m (by decide) (by decide)⟩
end
set_option maxHeartbeats 8000000 in
set_option maxRecDepth 100000 in
theorem inner_long (s:ByteArray) (w:World) (hs:16000<s.size) (hg:GlobW w) :
 Calls Tryz.prog 8 #[.string s] w fun e w'=>e=.returned (.bool true)/\Below w.heap.size w w':=by
 have HA:=Lib.hid (awake25 w hg)
 have hd:decide (16000<(s.size:Int))=true:=by simp;omega
 have hd2:decide (16000<s.size)=true:=by simp;omega
 clear hg
 go_enter Tryz.func8,Tryz.ntmps8
 go_wp2_with fail
 refine HA.out.mono ?_
 rintro e w1 ⟨rfl,hb1⟩
 have HB1:=Lib.hid hb1
 clear hb1
 go_wp2_with fail
 go_ret
 exact⟨rfl,HB1.out⟩
set_option maxHeartbeats 8000000 in
set_option maxRecDepth 100000 in
theorem inner_short (s:ByteArray) (w:World) (hs:s.size<=16000) (hg:GlobW w) :
 Calls Tryz.prog 8 #[.string s] w fun e w'=>e=.returned (.bool true)/\Below w.heap.size w w':=by
 obtain⟨e1,a1,pl1,c1,hS1,hC1,hr1,hr1'⟩:=rel_pair s w hs hg
 obtain⟨e2,a2,q2,hS2,hC2,hq2,hr2,hr2'⟩:=query_pair s w hs hg
 obtain⟨e3,a3,pl3,c3,hS3,hC3,hr3,hr3'⟩:=batch_pair s w hs hg
 have HS1:=Lib.hid hS1
 have HC1:=Lib.hid hC1
 have HS2:=Lib.hid hS2
 have HC2:=Lib.hid hC2
 have HQ2:=Lib.hid hq2
 have HS3:=Lib.hid hS3
 have HC3:=Lib.hid hC3
 have HAW:=Lib.hid (fun W (hW:Below w.heap.size w W)=>awake25 W (hg.below hW))
 have hd:decide (16000<(s.size:Int))=false:=by simp;omega
 have hd2:decide (16000<s.size)=false:=by simp;omega
 clear hS1 hC1 hS2 hC2 hq2 hS3 hC3 hg
 go_enter Tryz.func8,Tryz.ntmps8
 go_wp2_with fail
 refine (HS1.out w (Below.refl _ _)).mono ?_
 rintro e w1 ⟨cv,rfl,hrow,hb1⟩
 obtain⟨ro,rc,rfl,_,_⟩:=hrow.form
 generalize (c1.rel.cols.map Col.cells).length=rl at *
 generalize hrn:(⟨c1.rel.name.toArray⟩:ByteArray)=rn at *
 have hq1:=Blk.new w1 25 #[.string rn,.slice ro rl rc]
 have hbw:=balloc hb1 (.cells #[.string rn,.slice ro rl rc] 25)
 have hrow1:=hrow.keep (balloc (Below.refl w1.heap.size w1) (.cells #[.string rn,.slice ro rl rc] 25))
 obtain⟨W1,hW1⟩:∃ W1,w1.alloc (.cells #[.string rn,.slice ro rl rc] 25)=W1:=⟨_,rfl⟩
 obtain⟨b3,hb3⟩:∃ b3,w1.heap.size=b3:=⟨_,rfl⟩
 rw[hW1] at hq1 hbw hrow1
 rw[hb3] at hq1
 have HW1:=Lib.hid (And.intro hW1 hb3)
 have HB1:=Lib.hid hbw
 have HR1:=Lib.hid hrow1
 have HQ1:=Lib.hid hq1
 have HRN:=Lib.hid hrn
 clear hb1 hrow hq1 hbw hrow1 hW1 hb3 hrn
 go_upto_region 4 with fail
 rw[HW1.out.1,HW1.out.2]
 clear HW1
 go_wp2_with fail
 refine (HC1.out.call W1 HB1.out).mono ?_
 rintro e w2 ⟨cs,rfl,hown,hb2⟩
 obtain⟨x1,x2,x3,o1,o2,o3,o4,o5,n1,l1,n2,l2,n3,l3,n4,l4,n5,l5,rfl,hx1,hx2,hp1,_,_,_⟩:=(hown.at HC1.out.small).parts
 rw[HRN.out] at hx1
 subst hx1
 obtain⟨ck,hck⟩:∃ ck,c1.kind=ck:=⟨_,rfl⟩
 rw[hck]
 generalize c1.id=ci at *
 generalize c1.n=cn at *
 have hq3:=(HQ1.out.below hb2 HQ1.out.lt).alloc (.cells #[.int .i64 ck,.string rn,.slice o1 n1 l1,.string x2,.slice o2 n2 l2,.slice o3 n3 l3,.slice o4 n4 l4,.string x3,.int .i64 ci,.int .i64 cn,.slice o5 n5 l5] 34)
 have hq6:=Blk.new w2 34 #[.int .i64 ck,.string rn,.slice o1 n1 l1,.string x2,.slice o2 n2 l2,.slice o3 n3 l3,.slice o4 n4 l4,.string x3,.int .i64 ci,.int .i64 cn,.slice o5 n5 l5]
 have hbw:=balloc (HB1.out.trans (hb2.mono HB1.out.size)) (.cells #[.int .i64 ck,.string rn,.slice o1 n1 l1,.string x2,.slice o2 n2 l2,.slice o3 n3 l3,.slice o4 n4 l4,.string x3,.int .i64 ci,.int .i64 cn,.slice o5 n5 l5] 34)
 have hra:=HR1.out.keep (balloc hb2 (.cells #[.int .i64 ck,.string rn,.slice o1 n1 l1,.string x2,.slice o2 n2 l2,.slice o3 n3 l3,.slice o4 n4 l4,.string x3,.int .i64 ci,.int .i64 cn,.slice o5 n5 l5] 34))
 have hrb:=hp1.keep (balloc (Below.refl w2.heap.size w2) (.cells #[.int .i64 ck,.string rn,.slice o1 n1 l1,.string x2,.slice o2 n2 l2,.slice o3 n3 l3,.slice o4 n4 l4,.string x3,.int .i64 ci,.int .i64 cn,.slice o5 n5 l5] 34))
 obtain⟨W2,hW2⟩:∃ W2,w2.alloc (.cells #[.int .i64 ck,.string rn,.slice o1 n1 l1,.string x2,.slice o2 n2 l2,.slice o3 n3 l3,.slice o4 n4 l4,.string x3,.int .i64 ci,.int .i64 cn,.slice o5 n5 l5] 34)=W2:=⟨_,rfl⟩
 obtain⟨b6,hb6⟩:∃ b6,w2.heap.size=b6:=⟨_,rfl⟩
 have h6w:w.heap.size<=b6:=by
  rw[<-hb6]
  exact Nat.le_trans HB1.out.size hb2.size
 rw[hW2] at hq3 hq6 hbw hra hrb
 rw[hb6] at hq6
 have HW2:=Lib.hid (And.intro hW2 hb6)
 have HB2:=Lib.hid hbw
 have HQ3:=Lib.hid hq3
 have HQ6:=Lib.hid hq6
 have HRA:=Lib.hid hra
 have HRB:=Lib.hid hrb
 have HK:=Lib.hid hck
 clear hb2 hown hp1 hq3 hq6 hbw hra hrb hW2 hb6 hck hx2 HQ1 HR1 HB1 HS1
 go_upto_region 5 with fail
 rw[HW2.out.1,HW2.out.2]
 clear HW2
 go_cut [62] from 30 (fun s62 wx=>s62=.bool false/\Below W2.heap.size W2 wx)
 case first =>
  have k0:=HQ6.out.cell 0
  have k1:=HQ6.out.cell 1
  have k2:=HQ6.out.cell 2
  have k3:=HQ6.out.cell 3
  have k4:=HQ6.out.cell 4
  have k5:=HQ6.out.cell 5
  have k6:=HQ6.out.cell 6
  have k7:=HQ6.out.cell 7
  have k8:=HQ6.out.cell 8
  have k9:=HQ6.out.cell 9
  have k10:=HQ6.out.cell 10
  have kl:=HQ6.out.lt
  have r0:=HQ3.out.cell 0
  have r1:=HQ3.out.cell 1
  have rt:=HQ3.out.lt
  simp only[List.getElem?_toArray,List.getElem?_cons_zero,List.getElem?_cons_succ] at k0 k1 k2 k3 k4 k5 k6 k7 k8 k9 k10 r0 r1
  by_cases h0:e1=0
  ·obtain⟨hpl,hkd⟩:=HC1.out.good h0
   rw[HK.out] at hkd
   subst h0 hpl hkd
   go_wp2_with fail
   refine (sameRel_any W2 rn (.slice ro rl rc) (.slice o1 n1 l1) c1.rel.cols HRA.out HRB.out).mono ?_
   rintro e w3 ⟨rfl,hb3⟩
   have HB3:=Lib.hid hb3
   have hq7:=HQ6.out.below hb3 HQ6.out.lt
   clear k0 k1 k2 k3 k4 k5 k6 k7 k8 k9 k10 kl r0 r1 rt
   have k0:=hq7.cell 0
   have kl:=hq7.lt
   simp only[List.getElem?_toArray,List.getElem?_cons_zero] at k0
   clear hb3 hq7
   go_wp2_with fail
   go_meet
   exact⟨by first | rfl | simp,HB3.out⟩
  ·have hpl:=HC1.out.bad h0
   have q0:(e1 != 0)=true:=by simpa using h0
   have q1:(e1 == 0)=false:=by simpa using h0
   subst hpl
   go_wp2_with fail
   refine (sameRel_any W2 rn (.slice ro rl rc) (.slice o1 n1 l1) c1.rel.cols HRA.out HRB.out).mono ?_
   rintro e w3 ⟨rfl,hb3⟩
   have HB3:=Lib.hid hb3
   have hq7:=HQ6.out.below hb3 HQ6.out.lt
   clear k0 k1 k2 k3 k4 k5 k6 k7 k8 k9 k10 kl r0 r1 rt
   have k0:=hq7.cell 0
   have kl:=hq7.lt
   simp only[List.getElem?_toArray,List.getElem?_cons_zero] at k0
   clear hb3 hq7
   go_wp2_with fail
   go_meet
   exact⟨by first | rfl | simp,HB3.out⟩
 case rest =>
  obtain⟨rfl,hbc⟩:=hcut
  rename_i KK hKK
  refine hKK _ _ ?_
  clear hKK KK
  have HBc:=Lib.hid (HB2.out.trans (hbc.mono HB2.out.size))
  have HQ6c:=Lib.hid (HQ6.out.below hbc HQ6.out.lt)
  clear hbc HB2 HQ3 HQ6 HRA HRB HRN HK HC1 hr1 hr1'
  go_wp2_with fail
  refine (HS2.out wc HBc.out).mono ?_
  rintro e w4 ⟨hv,av,rfl,hs1,hs2,hb4⟩
  obtain⟨ho,hc,rfl⟩:=own_sl hs1
  obtain⟨ao,ac,rfl⟩:=atoms_sl hs2
  obtain⟨qn,hqn⟩:∃ qn,(⟨q2.name.toArray⟩:ByteArray)=qn:=⟨_,rfl⟩
  rw[hqn]
  obtain⟨hl,hhl⟩:∃ hl,q2.head.length=hl:=⟨_,rfl⟩
  obtain⟨al,hal⟩:∃ al,q2.atoms.length=al:=⟨_,rfl⟩
  rw[hhl] at hs1 ⊢
  rw[hal] at hs2 ⊢
  obtain⟨BQ,hBQ⟩:∃ BQ,wc.heap.size=BQ:=⟨_,rfl⟩
  rw[hBQ] at hs1 hs2
  have hf:IFr w ((w4.alloc (.cells #[.string qn,.slice ho hl hc,.slice ao al ac] 29)).alloc (.cells #[.string ⟨#[118,105,101,119,32]⟩,.string ⟨#[99,111,114,101,32]⟩,.string ⟨#[99,108,97,115,115,32]⟩] 9)) b6 w4.heap.size (w4.alloc (.cells #[.string qn,.slice ho hl hc,.slice ao al ac] 29)).heap.size #[.string qn,.slice ho hl hc,.slice ao al ac] BQ (.slice ho hl hc) (.slice ao al ac) q2:=by
   have hbb:=balloc (balloc (Below.refl w4.heap.size w4) (.cells #[.string qn,.slice ho hl hc,.slice ao al ac] 29)) (.cells #[.string ⟨#[118,105,101,119,32]⟩,.string ⟨#[99,111,114,101,32]⟩,.string ⟨#[99,108,97,115,115,32]⟩] 9)
   have m:MT 0 [34] w4 _:=MT.ofBelow hbb
   exact⟨(HBc.out.trans (hb4.mono HBc.out.size)).trans (hbb.mono ((HBc.out.trans (hb4.mono HBc.out.size)).size)),⟨_,rfl,(HQ6c.out.below hb4 HQ6c.out.lt).below hbb (HQ6c.out.below hb4 HQ6c.out.lt).lt⟩,(Blk.new _ _ _).alloc _,Blk.new _ _ _,m.ownsRow hs1 (by decide),hs2.mt m (by decide) (by decide)⟩
  obtain⟨W4,hW4⟩:∃ W4,w4.alloc (.cells #[.string qn,.slice ho hl hc,.slice ao al ac] 29)=W4:=⟨_,rfl⟩
  obtain⟨b9,hb9⟩:∃ b9,w4.heap.size=b9:=⟨_,rfl⟩
  rw[hW4,hb9] at hf
  have HW4:=Lib.hid (And.intro hW4 hb9)
  have HF:=Lib.hid hf
  have HQN:=Lib.hid hqn
  clear hs1 hs2 hb4 hqn hhl hal hBQ hf hW4 hb9 HBc HQ6c HS2
  go_upto_region 8 with fail
  rw[HW4.out.1,HW4.out.2]
  clear HW4
  go_wp2_with fail
  go_loopw [71] (fun i wr=>∃ k:Nat,k<=3/\i=.int .i64 k/\Hid (IFr w wr b6 b9 W4.heap.size #[.string qn,.slice ho hl hc,.slice ao al ac] BQ (.slice ho hl hc) (.slice ao al ac) q2)) (fun i _=>3 - (intOf i).toNat)
  case atStart=>exact⟨0,by omega,rfl,HF⟩
  case round =>
   obtain⟨k,hk,rfl,F⟩:=hrel
   by_cases hlt:k<3
   ·rcases (by omega:k=0∨k=1∨k=2) with rfl | rfl | rfl
    ·obtain⟨pl,c,hcp,hcq⟩:=HC2.out 0 (by omega)
     have hcp:CPair w (⟨#[118,105,101,119,32]⟩++s) 5 2 e2 a2 pl c:=hcp
     have HP:=Lib.hid hcp
     have q0:=F.out.q69.cell 0
     have q1:=F.out.q69.cell 1
     have q2c:=F.out.q69.cell 2
     have ql:=F.out.q69.lt
     simp only[List.getElem?_toArray,List.getElem?_cons_zero,List.getElem?_cons_succ] at q0 q1 q2c
     clear hcp
     go_wp2_with fail
     refine (HP.out.call wr F.out.b).mono ?_
     rintro e wa ⟨cs,rfl,hown,hba⟩
     obtain⟨x1,x2,x3,o1,o2,o3,o4,o5,n1,l1,n2,l2,n3,l3,n4,l4,n5,l5,rfl,_,hx2,_,hp2,hp3,_⟩:=(hown.at HP.out.small).parts
     rw[hcq] at hx2 hp2 hp3
     rw[HQN.out] at hx2
     subst hx2
     obtain⟨ck,hck⟩:∃ ck,c.kind=ck:=⟨_,rfl⟩
     rw[hck] at hown ⊢
     generalize hci:c.id=ci at *
     generalize hcn:c.n=cn at *
     have HCQ:=Lib.hid hcq
     obtain⟨cs0,hz0,hq0⟩:=(F.out.keep hba).q6
     have HZ:=Lib.hid hq0
     have HSZ:=Lib.hid hz0
     have HFa:=Lib.hid (F.out.keep hba)
     have HOW:=Lib.hid hown
     have HKD:=Lib.hid hck
     clear hba hq0 hz0 hown hck hci hcn hp2 hp3 q0 q1 q2c ql hcq
     go_wp2_with (refine wpList_store_blk rfl 34 _ _ rfl b6 34 _ _ rfl rfl HZ.out (by kernel_rfl) HSZ.out (by simp [Value.oneCell']) ?_)
     intro wb hbb hmb hzb
     have m:MT 0 [34] wa wb:=MT.ofMod hmb HZ.out (by simp) (Nat.zero_le _)
     have hfb:=HFa.out.put h6w hbb rfl hmb HZ.out
     have HFb:=Lib.hid hfb
     have hcb:=((own_mt HOW.out m).at HP.out.small).qcells
     rw[HCQ.out] at hcb
     have hs9:=hfb.o1.strs (by have:=HQ2.out.1;omega)
     have ha9:=hfb.o2.at HQ2.out.2.1 HQ2.out.2.2
     obtain⟨SS,hSS⟩:∃ SS:World->Prop,SS=fun w'=>Blk w' b6 34 #[.int .i64 ck,.string x1,.slice o1 n1 l1,.string qn,.slice o2 n2 l2,.slice o3 n3 l3,.slice o4 n4 l4,.string x3,.int .i64 ci,.int .i64 cn,.slice o5 n5 l5]/\Blk w' b9 29 #[.string qn,.slice ho hl hc,.slice ao al ac]/\Below wb.heap.size wb w':=⟨_,rfl⟩
     have hsd:SS wb.drew:=by rw[hSS];exact⟨hbb.drew,hfb.q9.drew,bdrew (Below.refl _ _)⟩
     have hsk:∀ W W',SS W->Below W.heap.size W W'->SS W':=fun W W' q hb=>by
      rw[hSS] at q ⊢
      exact⟨q.1.below hb q.1.lt,q.2.1.below hb q.2.1.lt,q.2.2.trans (hb.mono q.2.2.size)⟩
     have HSD:=Lib.hid hsd
     have HSK:=Lib.hid hsk
     have HS6:=Lib.hid (fun W (q:SS W)=>(by rw[hSS] at q;exact q.1:Blk W b6 34 #[.int .i64 ck,.string x1,.slice o1 n1 l1,.string qn,.slice o2 n2 l2,.slice o3 n3 l3,.slice o4 n4 l4,.string x3,.int .i64 ci,.int .i64 cn,.slice o5 n5 l5]))
     have HS9:=Lib.hid (fun W (q:SS W)=>(by rw[hSS] at q;exact q.2.1:Blk W b9 29 #[.string qn,.slice ho hl hc,.slice ao al ac]))
     have HSB:=Lib.hid (fun W (q:SS W)=>(by rw[hSS] at q;exact q.2.2:Below wb.heap.size wb W))
     have HSM:=Lib.hid (fun W (q:SS W)=>(by rw[hSS] at q;exact same_any W qn _ _ _ _ q2.head q2.atoms (hs9.keep q.2.2) (hcb.1.keep q.2.2) (ha9.keep q.2.2) (hcb.2.1.keep q.2.2):Calls Tryz.prog 26 #[.agg #[.string qn,.slice ho hl hc,.slice ao al ac],.agg #[.string qn,.slice o2 n2 l2,.slice o3 n3 l3]] W fun e w'=>e=.returned (.bool true)/\Below W.heap.size W w'))
     clear hSS hsd hsk hbb hmb hzb m hfb hcb hs9 ha9 HZ HSZ HFa HOW HCQ F
     go_upto_region 12 with fail
     have HSS:SS wb.drew:=HSD.out
     refine wp_region_held_drew (by kernel_rfl) HSS (fun _=>?_)
     by_cases h0:e2=0
     ·obtain⟨hpl,hkd⟩:=HP.out.good h0
      rw[HKD.out] at hkd
      subst h0 hpl hkd
      clear HP HKD
      refine Held.take 0 84 (v:=?_) rfl rfl (by kernel_rfl) (by kernel_rfl) (by kernel_rfl) (fun _ _ _ _ h=>h) (by kernel_rfl) HSS ?_ ?_
      rotate_left
      ·intro u hu
       go_simp
       try with_reducible rfl
      try simp only[List.setIfInBounds_toArray,List.set_cons_succ,List.set_cons_zero]
      refine Held.one 1 rfl (by kernel_rfl) (fun K hK=>?_)
      go_simp
      refine hK.out _ _ HSS ?_
      clear hK K
      try simp only[List.setIfInBounds_toArray,List.set_cons_succ,List.set_cons_zero]
      refine Held.one 2 rfl (by kernel_rfl) (fun K hK=>?_)
      go_simp
      refine hK.out _ _ HSS ?_
      clear hK K
      try simp only[List.setIfInBounds_toArray,List.set_cons_succ,List.set_cons_zero]
      refine Held.one 3 rfl (by kernel_rfl) (fun K hK=>?_)
      go_simp
      refine hK.out _ _ HSS ?_
      clear hK K
      try simp only[List.setIfInBounds_toArray,List.set_cons_succ,List.set_cons_zero]
      refine Held.take 4 88 (v:=?_) rfl rfl (by kernel_rfl) (by kernel_rfl) (by kernel_rfl) (fun _ _ _ _ h=>h) (by kernel_rfl) HSS ?_ ?_
      rotate_left
      ·intro u hu
       have hq:=HS9.out u hu
       have k0:=hq.cell 0
       have k1:=hq.cell 1
       have k2:=hq.cell 2
       simp only[List.getElem?_toArray,List.getElem?_cons_zero,List.getElem?_cons_succ] at k0 k1 k2
       have kl:=hq.lt
       clear hq hu
       go_simp
       try with_reducible rfl
      try simp only[List.setIfInBounds_toArray,List.set_cons_succ,List.set_cons_zero]
      refine Held.one 5 rfl (by kernel_rfl) (fun K hK=>?_)
      go_simp
      refine hK.out _ _ HSS ?_
      clear hK K
      try simp only[List.setIfInBounds_toArray,List.set_cons_succ,List.set_cons_zero]
      refine Held.one 6 rfl (by kernel_rfl) (fun K hK=>?_)
      have hq:=HS6.out _ HSS
      have k0:=hq.cell 0
      have k1:=hq.cell 1
      have k2:=hq.cell 2
      have k3:=hq.cell 3
      have k4:=hq.cell 4
      have k5:=hq.cell 5
      have k6:=hq.cell 6
      have k7:=hq.cell 7
      have k8:=hq.cell 8
      have k9:=hq.cell 9
      have k10:=hq.cell 10
      simp only[List.getElem?_toArray,List.getElem?_cons_zero,List.getElem?_cons_succ] at k0 k1 k2 k3 k4 k5 k6 k7 k8 k9 k10
      have kl:=hq.lt
      clear hq
      go_simp
      refine hK.out _ _ HSS ?_
      clear hK K k0 k1 k2 k3 k4 k5 k6 k7 k8 k9 k10 kl
      try simp only[List.setIfInBounds_toArray,List.set_cons_succ,List.set_cons_zero]
      refine Held.one 7 rfl (by kernel_rfl) (fun K hK=>?_)
      go_simp
      refine (HSM.out _ HSS).mono ?_
      rintro e w5 ⟨rfl,hbw5⟩
      have HSSw5:=HSK.out _ _ HSS hbw5
      refine hK.out _ _ HSSw5 ?_
      clear hK K HSS hbw5
      rename SS w5=>HSS
      try simp only[List.setIfInBounds_toArray,List.set_cons_succ,List.set_cons_zero]
      refine Held.one 8 rfl (by kernel_rfl) (fun K hK=>?_)
      go_simp
      refine hK.out _ _ HSS ?_
      clear hK K
      try simp only[List.setIfInBounds_toArray,List.set_cons_succ,List.set_cons_zero]
      refine Held.one 9 rfl (by kernel_rfl) (fun K hK=>?_)
      go_simp
      refine hK.out _ _ HSS ?_
      clear hK K
      try simp only[List.setIfInBounds_toArray,List.set_cons_succ,List.set_cons_zero]
      refine Held.one 10 rfl (by kernel_rfl) (fun K hK=>?_)
      go_simp
      refine hK.out _ _ HSS ?_
      clear hK K
      try simp only[List.setIfInBounds_toArray,List.set_cons_succ,List.set_cons_zero]
      refine Held.one 11 rfl (by kernel_rfl) (fun K hK=>?_)
      go_simp
      refine hK.out _ _ HSS ?_
      clear hK K
      try simp only[List.setIfInBounds_toArray,List.set_cons_succ,List.set_cons_zero]
      refine Held.one 12 rfl (by kernel_rfl) (fun K hK=>?_)
      go_simp
      refine hK.out _ _ HSS ?_
      clear hK K
      try simp only[List.setIfInBounds_toArray,List.set_cons_succ,List.set_cons_zero]
      refine Held.one 13 rfl (by kernel_rfl) (fun K hK=>?_)
      go_simp
      refine hK.out _ _ HSS ?_
      clear hK K
      try simp only[List.setIfInBounds_toArray,List.set_cons_succ,List.set_cons_zero]
      refine Held.skip 14 98 rfl rfl (by kernel_rfl) (by kernel_rfl) (by kernel_rfl) (fun _ _ _ _ h=>h) (by kernel_rfl) HSS ?_
      try simp only[List.setIfInBounds_toArray,List.set_cons_succ,List.set_cons_zero]
      refine Held.skip 15 99 rfl rfl (by kernel_rfl) (by kernel_rfl) (by kernel_rfl) (fun _ _ _ _ h=>h) (by kernel_rfl) HSS ?_
      try simp only[List.setIfInBounds_toArray,List.set_cons_succ,List.set_cons_zero]
      refine Held.one 16 rfl (by kernel_rfl) (fun K hK=>?_)
      go_simp
      refine hK.out _ _ HSS ?_
      clear hK K
      try simp only[List.setIfInBounds_toArray,List.set_cons_succ,List.set_cons_zero]
      refine Held.one 17 rfl (by kernel_rfl) (fun K hK=>?_)
      go_simp
      refine hK.out _ _ HSS ?_
      clear hK K
      try simp only[List.setIfInBounds_toArray,List.set_cons_succ,List.set_cons_zero]
      refine Held.one 18 rfl (by kernel_rfl) (fun K hK=>?_)
      go_simp
      refine hK.out _ _ HSS ?_
      clear hK K
      try simp only[List.setIfInBounds_toArray,List.set_cons_succ,List.set_cons_zero]
      refine Held.one 19 rfl (by kernel_rfl) (fun K hK=>?_)
      go_simp
      refine hK.out _ _ HSS ?_
      clear hK K
      try simp only[List.setIfInBounds_toArray,List.set_cons_succ,List.set_cons_zero]
      refine Held.one 20 rfl (by kernel_rfl) (fun K hK=>?_)
      go_simp
      refine hK.out _ _ HSS ?_
      clear hK K
      try simp only[List.setIfInBounds_toArray,List.set_cons_succ,List.set_cons_zero]
      refine Held.one 21 rfl (by kernel_rfl) (fun K hK=>?_)
      go_simp
      refine hK.out _ _ HSS ?_
      clear hK K
      try simp only[List.setIfInBounds_toArray,List.set_cons_succ,List.set_cons_zero]
      refine Held.one 22 rfl (by kernel_rfl) (fun K hK=>?_)
      go_simp
      refine hK.out _ _ HSS ?_
      clear hK K
      try simp only[List.setIfInBounds_toArray,List.set_cons_succ,List.set_cons_zero]
      refine Held.one 23 rfl (by kernel_rfl) (fun K hK=>?_)
      go_simp
      refine hK.out _ _ HSS ?_
      clear hK K
      try simp only[List.setIfInBounds_toArray,List.set_cons_succ,List.set_cons_zero]
      refine Held.one 24 rfl (by kernel_rfl) (fun K hK=>?_)
      go_simp
      refine hK.out _ _ HSS ?_
      clear hK K
      try simp only[List.setIfInBounds_toArray,List.set_cons_succ,List.set_cons_zero]
      refine Held.one 25 rfl (by kernel_rfl) (fun K hK=>?_)
      go_simp
      refine hK.out _ _ HSS ?_
      clear hK K
      try simp only[List.setIfInBounds_toArray,List.set_cons_succ,List.set_cons_zero]
      refine Held.one 26 rfl (by kernel_rfl) (fun K hK=>?_)
      go_simp
      refine hK.out _ _ HSS ?_
      clear hK K
      try simp only[List.setIfInBounds_toArray,List.set_cons_succ,List.set_cons_zero]
      refine Held.one 27 rfl (by kernel_rfl) (fun K hK=>?_)
      go_simp
      refine hK.out _ _ HSS ?_
      clear hK K
      try simp only[List.setIfInBounds_toArray,List.set_cons_succ,List.set_cons_zero]
      refine Held.one 28 rfl (by kernel_rfl) (fun K hK=>?_)
      go_simp
      refine hK.out _ _ HSS ?_
      clear hK K
      try simp only[List.setIfInBounds_toArray,List.set_cons_succ,List.set_cons_zero]
      refine Held.take 29 113 (v:=?_) rfl rfl (by kernel_rfl) (by kernel_rfl) (by kernel_rfl) (fun _ _ _ _ h=>h) (by kernel_rfl) HSS ?_ ?_
      rotate_left
      ·intro u hu
       go_simp
       try with_reducible rfl
      try simp only[List.setIfInBounds_toArray,List.set_cons_succ,List.set_cons_zero]
      refine Held.take 30 114 (v:=?_) rfl rfl (by kernel_rfl) (by kernel_rfl) (by kernel_rfl) (fun _ _ _ _ h=>h) (by kernel_rfl) HSS ?_ ?_
      rotate_left
      ·intro u hu
       have hq:=HS6.out u hu
       have k0:=hq.cell 0
       have k1:=hq.cell 1
       have k2:=hq.cell 2
       have k3:=hq.cell 3
       have k4:=hq.cell 4
       have k5:=hq.cell 5
       have k6:=hq.cell 6
       have k7:=hq.cell 7
       have k8:=hq.cell 8
       have k9:=hq.cell 9
       have k10:=hq.cell 10
       simp only[List.getElem?_toArray,List.getElem?_cons_zero,List.getElem?_cons_succ] at k0 k1 k2 k3 k4 k5 k6 k7 k8 k9 k10
       have kl:=hq.lt
       clear hq hu
       go_simp
       try with_reducible rfl
      try simp only[List.setIfInBounds_toArray,List.set_cons_succ,List.set_cons_zero]
      refine Held.take 32 116 (v:=?_) rfl rfl (by kernel_rfl) (by kernel_rfl) (by kernel_rfl) (fun _ _ _ _ h=>h) (by kernel_rfl) HSS ?_ ?_
      rotate_left
      ·intro u hu
       go_simp
       try with_reducible rfl
      try simp only[List.setIfInBounds_toArray,List.set_cons_succ,List.set_cons_zero]
      refine Held.one 31 rfl (by kernel_rfl) (fun K hK=>?_)
      go_simp
      refine hK.out _ _ (HSK.out _ _ HSS (balloc (Below.refl _ _) _)) ?_
      have HSS6:=HSK.out _ _ HSS (balloc (Below.refl w5.heap.size w5) (.cells #[.int .i64 2,.int .i64 15,.int .i64 14] 22))
      clear hK K HSS
      rename SS _=>HSS
      try simp only[List.setIfInBounds_toArray,List.set_cons_succ,List.set_cons_zero]
      refine Held.one 33 rfl (by kernel_rfl) (fun K hK=>?_)
      go_simp
      refine hK.out _ _ HSS ?_
      clear hK K
      try simp only[List.setIfInBounds_toArray,List.set_cons_succ,List.set_cons_zero]
      refine Held.one 34 rfl (by kernel_rfl) (fun K hK=>?_)
      go_simp
      refine hK.out _ _ HSS ?_
      clear hK K
      try simp only[List.setIfInBounds_toArray,List.set_cons_succ,List.set_cons_zero]
      refine Held.one 35 rfl (by kernel_rfl) (fun K hK=>?_)
      go_simp
      refine hK.out _ _ HSS ?_
      clear hK K
      try simp only[List.setIfInBounds_toArray,List.set_cons_succ,List.set_cons_zero]
      refine Held.one 36 rfl (by kernel_rfl) (fun K hK=>?_)
      go_simp
      refine hK.out _ _ HSS ?_
      clear hK K
      try simp only[List.setIfInBounds_toArray,List.set_cons_succ,List.set_cons_zero]
      refine Held.one 37 rfl (by kernel_rfl) (fun K hK=>?_)
      go_simp
      refine hK.out _ _ HSS ?_
      clear hK K
      try simp only[List.setIfInBounds_toArray,List.set_cons_succ,List.set_cons_zero]
      refine Held.one 38 rfl (by kernel_rfl) (fun K hK=>?_)
      go_simp
      refine hK.out _ _ HSS ?_
      clear hK K
      try simp only[List.setIfInBounds_toArray,List.set_cons_succ,List.set_cons_zero]
      refine wpAnyH_done (by kernel_rfl) ?_ _
      have HBE:=Lib.hid (HFb.out.keep (HSB.out _ HSS))
      go_wp2_with fail
      go_roundw
      case rel=>exact⟨1,by omega,rfl,HBE⟩
      case measure=>simp [intOf]
     ·have hpl:=HP.out.bad h0
      have hq0:(e2 != 0)=true:=by simpa using h0
      have hq1:(e2 == 0)=false:=by simpa using h0
      have hwr:IntKind.i64.wrap (a2+5)=a2+5:=by rw[IntKind.wrap_i64];omega
      subst hpl
      clear HP HKD
      refine Held.take 0 84 (v:=?_) rfl rfl (by kernel_rfl) (by kernel_rfl) (by kernel_rfl) (fun _ _ _ _ h=>h) (by kernel_rfl) HSS ?_ ?_
      rotate_left
      ·intro u hu
       go_simp
       try with_reducible rfl
      try simp only[List.setIfInBounds_toArray,List.set_cons_succ,List.set_cons_zero]
      try simp only[hq0,hq1,hwr]
      refine Held.one 1 rfl (by kernel_rfl) (fun K hK=>?_)
      go_simp
      refine hK.out _ _ HSS ?_
      clear hK K
      try simp only[List.setIfInBounds_toArray,List.set_cons_succ,List.set_cons_zero]
      try simp only[hq0,hq1,hwr]
      refine Held.one 2 rfl (by kernel_rfl) (fun K hK=>?_)
      go_simp
      refine hK.out _ _ HSS ?_
      clear hK K
      try simp only[List.setIfInBounds_toArray,List.set_cons_succ,List.set_cons_zero]
      try simp only[hq0,hq1,hwr]
      refine Held.one 3 rfl (by kernel_rfl) (fun K hK=>?_)
      go_simp
      refine hK.out _ _ HSS ?_
      clear hK K
      try simp only[List.setIfInBounds_toArray,List.set_cons_succ,List.set_cons_zero]
      try simp only[hq0,hq1,hwr]
      refine Held.take 4 88 (v:=?_) rfl rfl (by kernel_rfl) (by kernel_rfl) (by kernel_rfl) (fun _ _ _ _ h=>h) (by kernel_rfl) HSS ?_ ?_
      rotate_left
      ·intro u hu
       have hq:=HS9.out u hu
       have k0:=hq.cell 0
       have k1:=hq.cell 1
       have k2:=hq.cell 2
       simp only[List.getElem?_toArray,List.getElem?_cons_zero,List.getElem?_cons_succ] at k0 k1 k2
       have kl:=hq.lt
       clear hq hu
       go_simp
       try with_reducible rfl
      try simp only[List.setIfInBounds_toArray,List.set_cons_succ,List.set_cons_zero]
      try simp only[hq0,hq1,hwr]
      refine Held.one 5 rfl (by kernel_rfl) (fun K hK=>?_)
      go_simp
      refine hK.out _ _ HSS ?_
      clear hK K
      try simp only[List.setIfInBounds_toArray,List.set_cons_succ,List.set_cons_zero]
      try simp only[hq0,hq1,hwr]
      refine Held.one 6 rfl (by kernel_rfl) (fun K hK=>?_)
      have hq:=HS6.out _ HSS
      have k0:=hq.cell 0
      have k1:=hq.cell 1
      have k2:=hq.cell 2
      have k3:=hq.cell 3
      have k4:=hq.cell 4
      have k5:=hq.cell 5
      have k6:=hq.cell 6
      have k7:=hq.cell 7
      have k8:=hq.cell 8
      have k9:=hq.cell 9
      have k10:=hq.cell 10
      simp only[List.getElem?_toArray,List.getElem?_cons_zero,List.getElem?_cons_succ] at k0 k1 k2 k3 k4 k5 k6 k7 k8 k9 k10
      have kl:=hq.lt
      clear hq
      go_simp
      refine hK.out _ _ HSS ?_
      clear hK K k0 k1 k2 k3 k4 k5 k6 k7 k8 k9 k10 kl
      try simp only[List.setIfInBounds_toArray,List.set_cons_succ,List.set_cons_zero]
      try simp only[hq0,hq1,hwr]
      refine Held.one 7 rfl (by kernel_rfl) (fun K hK=>?_)
      go_simp
      refine (HSM.out _ HSS).mono ?_
      rintro e w5 ⟨rfl,hbw5⟩
      have HSSw5:=HSK.out _ _ HSS hbw5
      refine hK.out _ _ HSSw5 ?_
      clear hK K HSS hbw5
      rename SS w5=>HSS
      try simp only[List.setIfInBounds_toArray,List.set_cons_succ,List.set_cons_zero]
      try simp only[hq0,hq1,hwr]
      refine Held.one 8 rfl (by kernel_rfl) (fun K hK=>?_)
      go_simp
      refine hK.out _ _ HSS ?_
      clear hK K
      try simp only[List.setIfInBounds_toArray,List.set_cons_succ,List.set_cons_zero]
      try simp only[hq0,hq1,hwr]
      refine Held.one 9 rfl (by kernel_rfl) (fun K hK=>?_)
      go_simp
      refine hK.out _ _ HSS ?_
      clear hK K
      try simp only[List.setIfInBounds_toArray,List.set_cons_succ,List.set_cons_zero]
      try simp only[hq0,hq1,hwr]
      refine Held.one 10 rfl (by kernel_rfl) (fun K hK=>?_)
      go_simp
      refine hK.out _ _ HSS ?_
      clear hK K
      try simp only[List.setIfInBounds_toArray,List.set_cons_succ,List.set_cons_zero]
      try simp only[hq0,hq1,hwr]
      refine Held.one 11 rfl (by kernel_rfl) (fun K hK=>?_)
      go_simp
      refine hK.out _ _ HSS ?_
      clear hK K
      try simp only[List.setIfInBounds_toArray,List.set_cons_succ,List.set_cons_zero]
      try simp only[hq0,hq1,hwr]
      refine Held.one 12 rfl (by kernel_rfl) (fun K hK=>?_)
      go_simp
      refine hK.out _ _ HSS ?_
      clear hK K
      try simp only[List.setIfInBounds_toArray,List.set_cons_succ,List.set_cons_zero]
      try simp only[hq0,hq1,hwr]
      refine Held.one 13 rfl (by kernel_rfl) (fun K hK=>?_)
      go_simp
      refine hK.out _ _ HSS ?_
      clear hK K
      try simp only[List.setIfInBounds_toArray,List.set_cons_succ,List.set_cons_zero]
      try simp only[hq0,hq1,hwr]
      refine Held.take 14 98 (v:=?_) rfl rfl (by kernel_rfl) (by kernel_rfl) (by kernel_rfl) (fun _ _ _ _ h=>h) (by kernel_rfl) HSS ?_ ?_
      rotate_left
      ·intro u hu
       go_simp
       try with_reducible rfl
      try simp only[List.setIfInBounds_toArray,List.set_cons_succ,List.set_cons_zero]
      try simp only[hq0,hq1,hwr]
      refine Held.take 15 99 (v:=?_) rfl rfl (by kernel_rfl) (by kernel_rfl) (by kernel_rfl) (fun _ _ _ _ h=>h) (by kernel_rfl) HSS ?_ ?_
      rotate_left
      ·intro u hu
       go_simp
       try with_reducible rfl
      try simp only[List.setIfInBounds_toArray,List.set_cons_succ,List.set_cons_zero]
      try simp only[hq0,hq1,hwr]
      refine Held.one 16 rfl (by kernel_rfl) (fun K hK=>?_)
      go_simp
      refine hK.out _ _ HSS ?_
      clear hK K
      try simp only[List.setIfInBounds_toArray,List.set_cons_succ,List.set_cons_zero]
      try simp only[hq0,hq1,hwr]
      refine Held.one 17 rfl (by kernel_rfl) (fun K hK=>?_)
      go_simp
      refine hK.out _ _ HSS ?_
      clear hK K
      try simp only[List.setIfInBounds_toArray,List.set_cons_succ,List.set_cons_zero]
      try simp only[hq0,hq1,hwr]
      refine Held.one 18 rfl (by kernel_rfl) (fun K hK=>?_)
      go_simp
      refine hK.out _ _ HSS ?_
      clear hK K
      try simp only[List.setIfInBounds_toArray,List.set_cons_succ,List.set_cons_zero]
      try simp only[hq0,hq1,hwr]
      refine Held.one 19 rfl (by kernel_rfl) (fun K hK=>?_)
      go_simp
      refine hK.out _ _ HSS ?_
      clear hK K
      try simp only[List.setIfInBounds_toArray,List.set_cons_succ,List.set_cons_zero]
      try simp only[hq0,hq1,hwr]
      refine Held.one 20 rfl (by kernel_rfl) (fun K hK=>?_)
      go_simp
      refine hK.out _ _ HSS ?_
      clear hK K
      try simp only[List.setIfInBounds_toArray,List.set_cons_succ,List.set_cons_zero]
      try simp only[hq0,hq1,hwr]
      refine Held.one 21 rfl (by kernel_rfl) (fun K hK=>?_)
      go_simp
      refine hK.out _ _ HSS ?_
      clear hK K
      try simp only[List.setIfInBounds_toArray,List.set_cons_succ,List.set_cons_zero]
      try simp only[hq0,hq1,hwr]
      refine Held.one 22 rfl (by kernel_rfl) (fun K hK=>?_)
      go_simp
      refine hK.out _ _ HSS ?_
      clear hK K
      try simp only[List.setIfInBounds_toArray,List.set_cons_succ,List.set_cons_zero]
      try simp only[hq0,hq1,hwr]
      refine Held.one 23 rfl (by kernel_rfl) (fun K hK=>?_)
      go_simp
      refine hK.out _ _ HSS ?_
      clear hK K
      try simp only[List.setIfInBounds_toArray,List.set_cons_succ,List.set_cons_zero]
      try simp only[hq0,hq1,hwr]
      refine Held.one 24 rfl (by kernel_rfl) (fun K hK=>?_)
      go_simp
      refine hK.out _ _ HSS ?_
      clear hK K
      try simp only[List.setIfInBounds_toArray,List.set_cons_succ,List.set_cons_zero]
      try simp only[hq0,hq1,hwr]
      refine Held.one 25 rfl (by kernel_rfl) (fun K hK=>?_)
      go_simp
      refine hK.out _ _ HSS ?_
      clear hK K
      try simp only[List.setIfInBounds_toArray,List.set_cons_succ,List.set_cons_zero]
      try simp only[hq0,hq1,hwr]
      refine Held.one 26 rfl (by kernel_rfl) (fun K hK=>?_)
      go_simp
      refine hK.out _ _ HSS ?_
      clear hK K
      try simp only[List.setIfInBounds_toArray,List.set_cons_succ,List.set_cons_zero]
      try simp only[hq0,hq1,hwr]
      refine Held.one 27 rfl (by kernel_rfl) (fun K hK=>?_)
      go_simp
      refine hK.out _ _ HSS ?_
      clear hK K
      try simp only[List.setIfInBounds_toArray,List.set_cons_succ,List.set_cons_zero]
      try simp only[hq0,hq1,hwr]
      refine Held.one 28 rfl (by kernel_rfl) (fun K hK=>?_)
      go_simp
      refine hK.out _ _ HSS ?_
      clear hK K
      try simp only[List.setIfInBounds_toArray,List.set_cons_succ,List.set_cons_zero]
      try simp only[hq0,hq1,hwr]
      refine Held.skip 29 113 rfl rfl (by kernel_rfl) (by kernel_rfl) (by kernel_rfl) (fun _ _ _ _ h=>h) (by kernel_rfl) HSS ?_
      try simp only[List.setIfInBounds_toArray,List.set_cons_succ,List.set_cons_zero]
      try simp only[hq0,hq1,hwr]
      refine Held.skip 30 114 rfl rfl (by kernel_rfl) (by kernel_rfl) (by kernel_rfl) (fun _ _ _ _ h=>h) (by kernel_rfl) HSS ?_
      try simp only[List.setIfInBounds_toArray,List.set_cons_succ,List.set_cons_zero]
      try simp only[hq0,hq1,hwr]
      refine Held.skip 32 116 rfl rfl (by kernel_rfl) (by kernel_rfl) (by kernel_rfl) (fun _ _ _ _ h=>h) (by kernel_rfl) HSS ?_
      try simp only[List.setIfInBounds_toArray,List.set_cons_succ,List.set_cons_zero]
      try simp only[hq0,hq1,hwr]
      refine Held.one 31 rfl (by kernel_rfl) (fun K hK=>?_)
      go_simp
      refine hK.out _ _ HSS ?_
      clear hK K
      try simp only[List.setIfInBounds_toArray,List.set_cons_succ,List.set_cons_zero]
      try simp only[hq0,hq1,hwr]
      refine Held.one 33 rfl (by kernel_rfl) (fun K hK=>?_)
      go_simp
      refine hK.out _ _ HSS ?_
      clear hK K
      try simp only[List.setIfInBounds_toArray,List.set_cons_succ,List.set_cons_zero]
      try simp only[hq0,hq1,hwr]
      refine Held.one 34 rfl (by kernel_rfl) (fun K hK=>?_)
      go_simp
      refine hK.out _ _ HSS ?_
      clear hK K
      try simp only[List.setIfInBounds_toArray,List.set_cons_succ,List.set_cons_zero]
      try simp only[hq0,hq1,hwr]
      refine Held.one 35 rfl (by kernel_rfl) (fun K hK=>?_)
      go_simp
      refine hK.out _ _ HSS ?_
      clear hK K
      try simp only[List.setIfInBounds_toArray,List.set_cons_succ,List.set_cons_zero]
      try simp only[hq0,hq1,hwr]
      refine Held.one 36 rfl (by kernel_rfl) (fun K hK=>?_)
      go_simp
      refine hK.out _ _ HSS ?_
      clear hK K
      try simp only[List.setIfInBounds_toArray,List.set_cons_succ,List.set_cons_zero]
      try simp only[hq0,hq1,hwr]
      refine Held.one 37 rfl (by kernel_rfl) (fun K hK=>?_)
      go_simp
      refine hK.out _ _ HSS ?_
      clear hK K
      try simp only[List.setIfInBounds_toArray,List.set_cons_succ,List.set_cons_zero]
      try simp only[hq0,hq1,hwr]
      refine Held.one 38 rfl (by kernel_rfl) (fun K hK=>?_)
      go_simp
      refine hK.out _ _ HSS ?_
      clear hK K
      try simp only[List.setIfInBounds_toArray,List.set_cons_succ,List.set_cons_zero]
      try simp only[hq0,hq1,hwr]
      refine wpAnyH_done (by kernel_rfl) ?_ _
      have HBE:=Lib.hid (HFb.out.keep (HSB.out _ HSS))
      go_wp2_with fail
      go_roundw
      case rel=>exact⟨1,by omega,rfl,HBE⟩
      case measure=>simp [intOf]
    ·obtain⟨pl,c,hcp,hcq⟩:=HC2.out 1 (by omega)
     have hcp:CPair w (⟨#[99,111,114,101,32]⟩++s) 5 15 e2 a2 pl c:=hcp
     have HP:=Lib.hid hcp
     have q0:=F.out.q69.cell 0
     have q1:=F.out.q69.cell 1
     have q2c:=F.out.q69.cell 2
     have ql:=F.out.q69.lt
     simp only[List.getElem?_toArray,List.getElem?_cons_zero,List.getElem?_cons_succ] at q0 q1 q2c
     clear hcp
     go_wp2_with fail
     refine (HP.out.call wr F.out.b).mono ?_
     rintro e wa ⟨cs,rfl,hown,hba⟩
     obtain⟨x1,x2,x3,o1,o2,o3,o4,o5,n1,l1,n2,l2,n3,l3,n4,l4,n5,l5,rfl,_,hx2,_,hp2,hp3,_⟩:=(hown.at HP.out.small).parts
     rw[hcq] at hx2 hp2 hp3
     rw[HQN.out] at hx2
     subst hx2
     obtain⟨ck,hck⟩:∃ ck,c.kind=ck:=⟨_,rfl⟩
     rw[hck] at hown ⊢
     generalize hci:c.id=ci at *
     generalize hcn:c.n=cn at *
     have HCQ:=Lib.hid hcq
     obtain⟨cs0,hz0,hq0⟩:=(F.out.keep hba).q6
     have HZ:=Lib.hid hq0
     have HSZ:=Lib.hid hz0
     have HFa:=Lib.hid (F.out.keep hba)
     have HOW:=Lib.hid hown
     have HKD:=Lib.hid hck
     clear hba hq0 hz0 hown hck hci hcn hp2 hp3 q0 q1 q2c ql hcq
     go_wp2_with (refine wpList_store_blk rfl 34 _ _ rfl b6 34 _ _ rfl rfl HZ.out (by kernel_rfl) HSZ.out (by simp [Value.oneCell']) ?_)
     intro wb hbb hmb hzb
     have m:MT 0 [34] wa wb:=MT.ofMod hmb HZ.out (by simp) (Nat.zero_le _)
     have hfb:=HFa.out.put h6w hbb rfl hmb HZ.out
     have HFb:=Lib.hid hfb
     have hcb:=((own_mt HOW.out m).at HP.out.small).qcells
     rw[HCQ.out] at hcb
     have hs9:=hfb.o1.strs (by have:=HQ2.out.1;omega)
     have ha9:=hfb.o2.at HQ2.out.2.1 HQ2.out.2.2
     obtain⟨SS,hSS⟩:∃ SS:World->Prop,SS=fun w'=>Blk w' b6 34 #[.int .i64 ck,.string x1,.slice o1 n1 l1,.string qn,.slice o2 n2 l2,.slice o3 n3 l3,.slice o4 n4 l4,.string x3,.int .i64 ci,.int .i64 cn,.slice o5 n5 l5]/\Blk w' b9 29 #[.string qn,.slice ho hl hc,.slice ao al ac]/\Below wb.heap.size wb w':=⟨_,rfl⟩
     have hsd:SS wb.drew:=by rw[hSS];exact⟨hbb.drew,hfb.q9.drew,bdrew (Below.refl _ _)⟩
     have hsk:∀ W W',SS W->Below W.heap.size W W'->SS W':=fun W W' q hb=>by
      rw[hSS] at q ⊢
      exact⟨q.1.below hb q.1.lt,q.2.1.below hb q.2.1.lt,q.2.2.trans (hb.mono q.2.2.size)⟩
     have HSD:=Lib.hid hsd
     have HSK:=Lib.hid hsk
     have HS6:=Lib.hid (fun W (q:SS W)=>(by rw[hSS] at q;exact q.1:Blk W b6 34 #[.int .i64 ck,.string x1,.slice o1 n1 l1,.string qn,.slice o2 n2 l2,.slice o3 n3 l3,.slice o4 n4 l4,.string x3,.int .i64 ci,.int .i64 cn,.slice o5 n5 l5]))
     have HS9:=Lib.hid (fun W (q:SS W)=>(by rw[hSS] at q;exact q.2.1:Blk W b9 29 #[.string qn,.slice ho hl hc,.slice ao al ac]))
     have HSB:=Lib.hid (fun W (q:SS W)=>(by rw[hSS] at q;exact q.2.2:Below wb.heap.size wb W))
     have HSM:=Lib.hid (fun W (q:SS W)=>(by rw[hSS] at q;exact same_any W qn _ _ _ _ q2.head q2.atoms (hs9.keep q.2.2) (hcb.1.keep q.2.2) (ha9.keep q.2.2) (hcb.2.1.keep q.2.2):Calls Tryz.prog 26 #[.agg #[.string qn,.slice ho hl hc,.slice ao al ac],.agg #[.string qn,.slice o2 n2 l2,.slice o3 n3 l3]] W fun e w'=>e=.returned (.bool true)/\Below W.heap.size W w'))
     clear hSS hsd hsk hbb hmb hzb m hfb hcb hs9 ha9 HZ HSZ HFa HOW HCQ F
     go_upto_region 12 with fail
     have HSS:SS wb.drew:=HSD.out
     refine wp_region_held_drew (by kernel_rfl) HSS (fun _=>?_)
     by_cases h0:e2=0
     ·obtain⟨hpl,hkd⟩:=HP.out.good h0
      rw[HKD.out] at hkd
      subst h0 hpl hkd
      clear HP HKD
      refine Held.take 0 84 (v:=?_) rfl rfl (by kernel_rfl) (by kernel_rfl) (by kernel_rfl) (fun _ _ _ _ h=>h) (by kernel_rfl) HSS ?_ ?_
      rotate_left
      ·intro u hu
       go_simp
       try with_reducible rfl
      try simp only[List.setIfInBounds_toArray,List.set_cons_succ,List.set_cons_zero]
      refine Held.one 1 rfl (by kernel_rfl) (fun K hK=>?_)
      go_simp
      refine hK.out _ _ HSS ?_
      clear hK K
      try simp only[List.setIfInBounds_toArray,List.set_cons_succ,List.set_cons_zero]
      refine Held.one 2 rfl (by kernel_rfl) (fun K hK=>?_)
      go_simp
      refine hK.out _ _ HSS ?_
      clear hK K
      try simp only[List.setIfInBounds_toArray,List.set_cons_succ,List.set_cons_zero]
      refine Held.one 3 rfl (by kernel_rfl) (fun K hK=>?_)
      go_simp
      refine hK.out _ _ HSS ?_
      clear hK K
      try simp only[List.setIfInBounds_toArray,List.set_cons_succ,List.set_cons_zero]
      refine Held.take 4 88 (v:=?_) rfl rfl (by kernel_rfl) (by kernel_rfl) (by kernel_rfl) (fun _ _ _ _ h=>h) (by kernel_rfl) HSS ?_ ?_
      rotate_left
      ·intro u hu
       have hq:=HS9.out u hu
       have k0:=hq.cell 0
       have k1:=hq.cell 1
       have k2:=hq.cell 2
       simp only[List.getElem?_toArray,List.getElem?_cons_zero,List.getElem?_cons_succ] at k0 k1 k2
       have kl:=hq.lt
       clear hq hu
       go_simp
       try with_reducible rfl
      try simp only[List.setIfInBounds_toArray,List.set_cons_succ,List.set_cons_zero]
      refine Held.one 5 rfl (by kernel_rfl) (fun K hK=>?_)
      go_simp
      refine hK.out _ _ HSS ?_
      clear hK K
      try simp only[List.setIfInBounds_toArray,List.set_cons_succ,List.set_cons_zero]
      refine Held.one 6 rfl (by kernel_rfl) (fun K hK=>?_)
      have hq:=HS6.out _ HSS
      have k0:=hq.cell 0
      have k1:=hq.cell 1
      have k2:=hq.cell 2
      have k3:=hq.cell 3
      have k4:=hq.cell 4
      have k5:=hq.cell 5
      have k6:=hq.cell 6
      have k7:=hq.cell 7
      have k8:=hq.cell 8
      have k9:=hq.cell 9
      have k10:=hq.cell 10
      simp only[List.getElem?_toArray,List.getElem?_cons_zero,List.getElem?_cons_succ] at k0 k1 k2 k3 k4 k5 k6 k7 k8 k9 k10
      have kl:=hq.lt
      clear hq
      go_simp
      refine hK.out _ _ HSS ?_
      clear hK K k0 k1 k2 k3 k4 k5 k6 k7 k8 k9 k10 kl
      try simp only[List.setIfInBounds_toArray,List.set_cons_succ,List.set_cons_zero]
      refine Held.one 7 rfl (by kernel_rfl) (fun K hK=>?_)
      go_simp
      refine (HSM.out _ HSS).mono ?_
      rintro e w5 ⟨rfl,hbw5⟩
      have HSSw5:=HSK.out _ _ HSS hbw5
      refine hK.out _ _ HSSw5 ?_
      clear hK K HSS hbw5
      rename SS w5=>HSS
      try simp only[List.setIfInBounds_toArray,List.set_cons_succ,List.set_cons_zero]
      refine Held.one 8 rfl (by kernel_rfl) (fun K hK=>?_)
      go_simp
      refine hK.out _ _ HSS ?_
      clear hK K
      try simp only[List.setIfInBounds_toArray,List.set_cons_succ,List.set_cons_zero]
      refine Held.one 9 rfl (by kernel_rfl) (fun K hK=>?_)
      go_simp
      refine hK.out _ _ HSS ?_
      clear hK K
      try simp only[List.setIfInBounds_toArray,List.set_cons_succ,List.set_cons_zero]
      refine Held.one 10 rfl (by kernel_rfl) (fun K hK=>?_)
      go_simp
      refine hK.out _ _ HSS ?_
      clear hK K
      try simp only[List.setIfInBounds_toArray,List.set_cons_succ,List.set_cons_zero]
      refine Held.one 11 rfl (by kernel_rfl) (fun K hK=>?_)
      go_simp
      refine hK.out _ _ HSS ?_
      clear hK K
      try simp only[List.setIfInBounds_toArray,List.set_cons_succ,List.set_cons_zero]
      refine Held.one 12 rfl (by kernel_rfl) (fun K hK=>?_)
      go_simp
      refine hK.out _ _ HSS ?_
      clear hK K
      try simp only[List.setIfInBounds_toArray,List.set_cons_succ,List.set_cons_zero]
      refine Held.one 13 rfl (by kernel_rfl) (fun K hK=>?_)
      go_simp
      refine hK.out _ _ HSS ?_
      clear hK K
      try simp only[List.setIfInBounds_toArray,List.set_cons_succ,List.set_cons_zero]
      refine Held.skip 14 98 rfl rfl (by kernel_rfl) (by kernel_rfl) (by kernel_rfl) (fun _ _ _ _ h=>h) (by kernel_rfl) HSS ?_
      try simp only[List.setIfInBounds_toArray,List.set_cons_succ,List.set_cons_zero]
      refine Held.skip 15 99 rfl rfl (by kernel_rfl) (by kernel_rfl) (by kernel_rfl) (fun _ _ _ _ h=>h) (by kernel_rfl) HSS ?_
      try simp only[List.setIfInBounds_toArray,List.set_cons_succ,List.set_cons_zero]
      refine Held.one 16 rfl (by kernel_rfl) (fun K hK=>?_)
      go_simp
      refine hK.out _ _ HSS ?_
      clear hK K
      try simp only[List.setIfInBounds_toArray,List.set_cons_succ,List.set_cons_zero]
      refine Held.one 17 rfl (by kernel_rfl) (fun K hK=>?_)
      go_simp
      refine hK.out _ _ HSS ?_
      clear hK K
      try simp only[List.setIfInBounds_toArray,List.set_cons_succ,List.set_cons_zero]
      refine Held.one 18 rfl (by kernel_rfl) (fun K hK=>?_)
      go_simp
      refine hK.out _ _ HSS ?_
      clear hK K
      try simp only[List.setIfInBounds_toArray,List.set_cons_succ,List.set_cons_zero]
      refine Held.one 19 rfl (by kernel_rfl) (fun K hK=>?_)
      go_simp
      refine hK.out _ _ HSS ?_
      clear hK K
      try simp only[List.setIfInBounds_toArray,List.set_cons_succ,List.set_cons_zero]
      refine Held.one 20 rfl (by kernel_rfl) (fun K hK=>?_)
      go_simp
      refine hK.out _ _ HSS ?_
      clear hK K
      try simp only[List.setIfInBounds_toArray,List.set_cons_succ,List.set_cons_zero]
      refine Held.one 21 rfl (by kernel_rfl) (fun K hK=>?_)
      go_simp
      refine hK.out _ _ HSS ?_
      clear hK K
      try simp only[List.setIfInBounds_toArray,List.set_cons_succ,List.set_cons_zero]
      refine Held.one 22 rfl (by kernel_rfl) (fun K hK=>?_)
      go_simp
      refine hK.out _ _ HSS ?_
      clear hK K
      try simp only[List.setIfInBounds_toArray,List.set_cons_succ,List.set_cons_zero]
      refine Held.one 23 rfl (by kernel_rfl) (fun K hK=>?_)
      go_simp
      refine hK.out _ _ HSS ?_
      clear hK K
      try simp only[List.setIfInBounds_toArray,List.set_cons_succ,List.set_cons_zero]
      refine Held.one 24 rfl (by kernel_rfl) (fun K hK=>?_)
      go_simp
      refine hK.out _ _ HSS ?_
      clear hK K
      try simp only[List.setIfInBounds_toArray,List.set_cons_succ,List.set_cons_zero]
      refine Held.one 25 rfl (by kernel_rfl) (fun K hK=>?_)
      go_simp
      refine hK.out _ _ HSS ?_
      clear hK K
      try simp only[List.setIfInBounds_toArray,List.set_cons_succ,List.set_cons_zero]
      refine Held.one 26 rfl (by kernel_rfl) (fun K hK=>?_)
      go_simp
      refine hK.out _ _ HSS ?_
      clear hK K
      try simp only[List.setIfInBounds_toArray,List.set_cons_succ,List.set_cons_zero]
      refine Held.one 27 rfl (by kernel_rfl) (fun K hK=>?_)
      go_simp
      refine hK.out _ _ HSS ?_
      clear hK K
      try simp only[List.setIfInBounds_toArray,List.set_cons_succ,List.set_cons_zero]
      refine Held.one 28 rfl (by kernel_rfl) (fun K hK=>?_)
      go_simp
      refine hK.out _ _ HSS ?_
      clear hK K
      try simp only[List.setIfInBounds_toArray,List.set_cons_succ,List.set_cons_zero]
      refine Held.take 29 113 (v:=?_) rfl rfl (by kernel_rfl) (by kernel_rfl) (by kernel_rfl) (fun _ _ _ _ h=>h) (by kernel_rfl) HSS ?_ ?_
      rotate_left
      ·intro u hu
       go_simp
       try with_reducible rfl
      try simp only[List.setIfInBounds_toArray,List.set_cons_succ,List.set_cons_zero]
      refine Held.take 30 114 (v:=?_) rfl rfl (by kernel_rfl) (by kernel_rfl) (by kernel_rfl) (fun _ _ _ _ h=>h) (by kernel_rfl) HSS ?_ ?_
      rotate_left
      ·intro u hu
       have hq:=HS6.out u hu
       have k0:=hq.cell 0
       have k1:=hq.cell 1
       have k2:=hq.cell 2
       have k3:=hq.cell 3
       have k4:=hq.cell 4
       have k5:=hq.cell 5
       have k6:=hq.cell 6
       have k7:=hq.cell 7
       have k8:=hq.cell 8
       have k9:=hq.cell 9
       have k10:=hq.cell 10
       simp only[List.getElem?_toArray,List.getElem?_cons_zero,List.getElem?_cons_succ] at k0 k1 k2 k3 k4 k5 k6 k7 k8 k9 k10
       have kl:=hq.lt
       clear hq hu
       go_simp
       try with_reducible rfl
      try simp only[List.setIfInBounds_toArray,List.set_cons_succ,List.set_cons_zero]
      refine Held.take 32 116 (v:=?_) rfl rfl (by kernel_rfl) (by kernel_rfl) (by kernel_rfl) (fun _ _ _ _ h=>h) (by kernel_rfl) HSS ?_ ?_
      rotate_left
      ·intro u hu
       go_simp
       try with_reducible rfl
      try simp only[List.setIfInBounds_toArray,List.set_cons_succ,List.set_cons_zero]
      refine Held.one 31 rfl (by kernel_rfl) (fun K hK=>?_)
      go_simp
      refine hK.out _ _ (HSK.out _ _ HSS (balloc (Below.refl _ _) _)) ?_
      have HSS6:=HSK.out _ _ HSS (balloc (Below.refl w5.heap.size w5) (.cells #[.int .i64 2,.int .i64 15,.int .i64 14] 22))
      clear hK K HSS
      rename SS _=>HSS
      try simp only[List.setIfInBounds_toArray,List.set_cons_succ,List.set_cons_zero]
      refine Held.one 33 rfl (by kernel_rfl) (fun K hK=>?_)
      go_simp
      refine hK.out _ _ HSS ?_
      clear hK K
      try simp only[List.setIfInBounds_toArray,List.set_cons_succ,List.set_cons_zero]
      refine Held.one 34 rfl (by kernel_rfl) (fun K hK=>?_)
      go_simp
      refine hK.out _ _ HSS ?_
      clear hK K
      try simp only[List.setIfInBounds_toArray,List.set_cons_succ,List.set_cons_zero]
      refine Held.one 35 rfl (by kernel_rfl) (fun K hK=>?_)
      go_simp
      refine hK.out _ _ HSS ?_
      clear hK K
      try simp only[List.setIfInBounds_toArray,List.set_cons_succ,List.set_cons_zero]
      refine Held.one 36 rfl (by kernel_rfl) (fun K hK=>?_)
      go_simp
      refine hK.out _ _ HSS ?_
      clear hK K
      try simp only[List.setIfInBounds_toArray,List.set_cons_succ,List.set_cons_zero]
      refine Held.one 37 rfl (by kernel_rfl) (fun K hK=>?_)
      go_simp
      refine hK.out _ _ HSS ?_
      clear hK K
      try simp only[List.setIfInBounds_toArray,List.set_cons_succ,List.set_cons_zero]
      refine Held.one 38 rfl (by kernel_rfl) (fun K hK=>?_)
      go_simp
      refine hK.out _ _ HSS ?_
      clear hK K
      try simp only[List.setIfInBounds_toArray,List.set_cons_succ,List.set_cons_zero]
      refine wpAnyH_done (by kernel_rfl) ?_ _
      have HBE:=Lib.hid (HFb.out.keep (HSB.out _ HSS))
      go_wp2_with fail
      go_roundw
      case rel=>exact⟨2,by omega,rfl,HBE⟩
      case measure=>simp [intOf]
     ·have hpl:=HP.out.bad h0
      have hq0:(e2 != 0)=true:=by simpa using h0
      have hq1:(e2 == 0)=false:=by simpa using h0
      have hwr:IntKind.i64.wrap (a2+5)=a2+5:=by rw[IntKind.wrap_i64];omega
      subst hpl
      clear HP HKD
      refine Held.take 0 84 (v:=?_) rfl rfl (by kernel_rfl) (by kernel_rfl) (by kernel_rfl) (fun _ _ _ _ h=>h) (by kernel_rfl) HSS ?_ ?_
      rotate_left
      ·intro u hu
       go_simp
       try with_reducible rfl
      try simp only[List.setIfInBounds_toArray,List.set_cons_succ,List.set_cons_zero]
      try simp only[hq0,hq1,hwr]
      refine Held.one 1 rfl (by kernel_rfl) (fun K hK=>?_)
      go_simp
      refine hK.out _ _ HSS ?_
      clear hK K
      try simp only[List.setIfInBounds_toArray,List.set_cons_succ,List.set_cons_zero]
      try simp only[hq0,hq1,hwr]
      refine Held.one 2 rfl (by kernel_rfl) (fun K hK=>?_)
      go_simp
      refine hK.out _ _ HSS ?_
      clear hK K
      try simp only[List.setIfInBounds_toArray,List.set_cons_succ,List.set_cons_zero]
      try simp only[hq0,hq1,hwr]
      refine Held.one 3 rfl (by kernel_rfl) (fun K hK=>?_)
      go_simp
      refine hK.out _ _ HSS ?_
      clear hK K
      try simp only[List.setIfInBounds_toArray,List.set_cons_succ,List.set_cons_zero]
      try simp only[hq0,hq1,hwr]
      refine Held.take 4 88 (v:=?_) rfl rfl (by kernel_rfl) (by kernel_rfl) (by kernel_rfl) (fun _ _ _ _ h=>h) (by kernel_rfl) HSS ?_ ?_
      rotate_left
      ·intro u hu
       have hq:=HS9.out u hu
       have k0:=hq.cell 0
       have k1:=hq.cell 1
       have k2:=hq.cell 2
       simp only[List.getElem?_toArray,List.getElem?_cons_zero,List.getElem?_cons_succ] at k0 k1 k2
       have kl:=hq.lt
       clear hq hu
       go_simp
       try with_reducible rfl
      try simp only[List.setIfInBounds_toArray,List.set_cons_succ,List.set_cons_zero]
      try simp only[hq0,hq1,hwr]
      refine Held.one 5 rfl (by kernel_rfl) (fun K hK=>?_)
      go_simp
      refine hK.out _ _ HSS ?_
      clear hK K
      try simp only[List.setIfInBounds_toArray,List.set_cons_succ,List.set_cons_zero]
      try simp only[hq0,hq1,hwr]
      refine Held.one 6 rfl (by kernel_rfl) (fun K hK=>?_)
      have hq:=HS6.out _ HSS
      have k0:=hq.cell 0
      have k1:=hq.cell 1
      have k2:=hq.cell 2
      have k3:=hq.cell 3
      have k4:=hq.cell 4
      have k5:=hq.cell 5
      have k6:=hq.cell 6
      have k7:=hq.cell 7
      have k8:=hq.cell 8
      have k9:=hq.cell 9
      have k10:=hq.cell 10
      simp only[List.getElem?_toArray,List.getElem?_cons_zero,List.getElem?_cons_succ] at k0 k1 k2 k3 k4 k5 k6 k7 k8 k9 k10
      have kl:=hq.lt
      clear hq
      go_simp
      refine hK.out _ _ HSS ?_
      clear hK K k0 k1 k2 k3 k4 k5 k6 k7 k8 k9 k10 kl
      try simp only[List.setIfInBounds_toArray,List.set_cons_succ,List.set_cons_zero]
      try simp only[hq0,hq1,hwr]
      refine Held.one 7 rfl (by kernel_rfl) (fun K hK=>?_)
      go_simp
      refine (HSM.out _ HSS).mono ?_
      rintro e w5 ⟨rfl,hbw5⟩
      have HSSw5:=HSK.out _ _ HSS hbw5
      refine hK.out _ _ HSSw5 ?_
      clear hK K HSS hbw5
      rename SS w5=>HSS
      try simp only[List.setIfInBounds_toArray,List.set_cons_succ,List.set_cons_zero]
      try simp only[hq0,hq1,hwr]
      refine Held.one 8 rfl (by kernel_rfl) (fun K hK=>?_)
      go_simp
      refine hK.out _ _ HSS ?_
      clear hK K
      try simp only[List.setIfInBounds_toArray,List.set_cons_succ,List.set_cons_zero]
      try simp only[hq0,hq1,hwr]
      refine Held.one 9 rfl (by kernel_rfl) (fun K hK=>?_)
      go_simp
      refine hK.out _ _ HSS ?_
      clear hK K
      try simp only[List.setIfInBounds_toArray,List.set_cons_succ,List.set_cons_zero]
      try simp only[hq0,hq1,hwr]
      refine Held.one 10 rfl (by kernel_rfl) (fun K hK=>?_)
      go_simp
      refine hK.out _ _ HSS ?_
      clear hK K
      try simp only[List.setIfInBounds_toArray,List.set_cons_succ,List.set_cons_zero]
      try simp only[hq0,hq1,hwr]
      refine Held.one 11 rfl (by kernel_rfl) (fun K hK=>?_)
      go_simp
      refine hK.out _ _ HSS ?_
      clear hK K
      try simp only[List.setIfInBounds_toArray,List.set_cons_succ,List.set_cons_zero]
      try simp only[hq0,hq1,hwr]
      refine Held.one 12 rfl (by kernel_rfl) (fun K hK=>?_)
      go_simp
      refine hK.out _ _ HSS ?_
      clear hK K
      try simp only[List.setIfInBounds_toArray,List.set_cons_succ,List.set_cons_zero]
      try simp only[hq0,hq1,hwr]
      refine Held.one 13 rfl (by kernel_rfl) (fun K hK=>?_)
      go_simp
      refine hK.out _ _ HSS ?_
      clear hK K
      try simp only[List.setIfInBounds_toArray,List.set_cons_succ,List.set_cons_zero]
      try simp only[hq0,hq1,hwr]
      refine Held.take 14 98 (v:=?_) rfl rfl (by kernel_rfl) (by kernel_rfl) (by kernel_rfl) (fun _ _ _ _ h=>h) (by kernel_rfl) HSS ?_ ?_
      rotate_left
      ·intro u hu
       go_simp
       try with_reducible rfl
      try simp only[List.setIfInBounds_toArray,List.set_cons_succ,List.set_cons_zero]
      try simp only[hq0,hq1,hwr]
      refine Held.take 15 99 (v:=?_) rfl rfl (by kernel_rfl) (by kernel_rfl) (by kernel_rfl) (fun _ _ _ _ h=>h) (by kernel_rfl) HSS ?_ ?_
      rotate_left
      ·intro u hu
       go_simp
       try with_reducible rfl
      try simp only[List.setIfInBounds_toArray,List.set_cons_succ,List.set_cons_zero]
      try simp only[hq0,hq1,hwr]
      refine Held.one 16 rfl (by kernel_rfl) (fun K hK=>?_)
      go_simp
      refine hK.out _ _ HSS ?_
      clear hK K
      try simp only[List.setIfInBounds_toArray,List.set_cons_succ,List.set_cons_zero]
      try simp only[hq0,hq1,hwr]
      refine Held.one 17 rfl (by kernel_rfl) (fun K hK=>?_)
      go_simp
      refine hK.out _ _ HSS ?_
      clear hK K
      try simp only[List.setIfInBounds_toArray,List.set_cons_succ,List.set_cons_zero]
      try simp only[hq0,hq1,hwr]
      refine Held.one 18 rfl (by kernel_rfl) (fun K hK=>?_)
      go_simp
      refine hK.out _ _ HSS ?_
      clear hK K
      try simp only[List.setIfInBounds_toArray,List.set_cons_succ,List.set_cons_zero]
      try simp only[hq0,hq1,hwr]
      refine Held.one 19 rfl (by kernel_rfl) (fun K hK=>?_)
      go_simp
      refine hK.out _ _ HSS ?_
      clear hK K
      try simp only[List.setIfInBounds_toArray,List.set_cons_succ,List.set_cons_zero]
      try simp only[hq0,hq1,hwr]
      refine Held.one 20 rfl (by kernel_rfl) (fun K hK=>?_)
      go_simp
      refine hK.out _ _ HSS ?_
      clear hK K
      try simp only[List.setIfInBounds_toArray,List.set_cons_succ,List.set_cons_zero]
      try simp only[hq0,hq1,hwr]
      refine Held.one 21 rfl (by kernel_rfl) (fun K hK=>?_)
      go_simp
      refine hK.out _ _ HSS ?_
      clear hK K
      try simp only[List.setIfInBounds_toArray,List.set_cons_succ,List.set_cons_zero]
      try simp only[hq0,hq1,hwr]
      refine Held.one 22 rfl (by kernel_rfl) (fun K hK=>?_)
      go_simp
      refine hK.out _ _ HSS ?_
      clear hK K
      try simp only[List.setIfInBounds_toArray,List.set_cons_succ,List.set_cons_zero]
      try simp only[hq0,hq1,hwr]
      refine Held.one 23 rfl (by kernel_rfl) (fun K hK=>?_)
      go_simp
      refine hK.out _ _ HSS ?_
      clear hK K
      try simp only[List.setIfInBounds_toArray,List.set_cons_succ,List.set_cons_zero]
      try simp only[hq0,hq1,hwr]
      refine Held.one 24 rfl (by kernel_rfl) (fun K hK=>?_)
      go_simp
      refine hK.out _ _ HSS ?_
      clear hK K
      try simp only[List.setIfInBounds_toArray,List.set_cons_succ,List.set_cons_zero]
      try simp only[hq0,hq1,hwr]
      refine Held.one 25 rfl (by kernel_rfl) (fun K hK=>?_)
      go_simp
      refine hK.out _ _ HSS ?_
      clear hK K
      try simp only[List.setIfInBounds_toArray,List.set_cons_succ,List.set_cons_zero]
      try simp only[hq0,hq1,hwr]
      refine Held.one 26 rfl (by kernel_rfl) (fun K hK=>?_)
      go_simp
      refine hK.out _ _ HSS ?_
      clear hK K
      try simp only[List.setIfInBounds_toArray,List.set_cons_succ,List.set_cons_zero]
      try simp only[hq0,hq1,hwr]
      refine Held.one 27 rfl (by kernel_rfl) (fun K hK=>?_)
      go_simp
      refine hK.out _ _ HSS ?_
      clear hK K
      try simp only[List.setIfInBounds_toArray,List.set_cons_succ,List.set_cons_zero]
      try simp only[hq0,hq1,hwr]
      refine Held.one 28 rfl (by kernel_rfl) (fun K hK=>?_)
      go_simp
      refine hK.out _ _ HSS ?_
      clear hK K
      try simp only[List.setIfInBounds_toArray,List.set_cons_succ,List.set_cons_zero]
      try simp only[hq0,hq1,hwr]
      refine Held.skip 29 113 rfl rfl (by kernel_rfl) (by kernel_rfl) (by kernel_rfl) (fun _ _ _ _ h=>h) (by kernel_rfl) HSS ?_
      try simp only[List.setIfInBounds_toArray,List.set_cons_succ,List.set_cons_zero]
      try simp only[hq0,hq1,hwr]
      refine Held.skip 30 114 rfl rfl (by kernel_rfl) (by kernel_rfl) (by kernel_rfl) (fun _ _ _ _ h=>h) (by kernel_rfl) HSS ?_
      try simp only[List.setIfInBounds_toArray,List.set_cons_succ,List.set_cons_zero]
      try simp only[hq0,hq1,hwr]
      refine Held.skip 32 116 rfl rfl (by kernel_rfl) (by kernel_rfl) (by kernel_rfl) (fun _ _ _ _ h=>h) (by kernel_rfl) HSS ?_
      try simp only[List.setIfInBounds_toArray,List.set_cons_succ,List.set_cons_zero]
      try simp only[hq0,hq1,hwr]
      refine Held.one 31 rfl (by kernel_rfl) (fun K hK=>?_)
      go_simp
      refine hK.out _ _ HSS ?_
      clear hK K
      try simp only[List.setIfInBounds_toArray,List.set_cons_succ,List.set_cons_zero]
      try simp only[hq0,hq1,hwr]
      refine Held.one 33 rfl (by kernel_rfl) (fun K hK=>?_)
      go_simp
      refine hK.out _ _ HSS ?_
      clear hK K
      try simp only[List.setIfInBounds_toArray,List.set_cons_succ,List.set_cons_zero]
      try simp only[hq0,hq1,hwr]
      refine Held.one 34 rfl (by kernel_rfl) (fun K hK=>?_)
      go_simp
      refine hK.out _ _ HSS ?_
      clear hK K
      try simp only[List.setIfInBounds_toArray,List.set_cons_succ,List.set_cons_zero]
      try simp only[hq0,hq1,hwr]
      refine Held.one 35 rfl (by kernel_rfl) (fun K hK=>?_)
      go_simp
      refine hK.out _ _ HSS ?_
      clear hK K
      try simp only[List.setIfInBounds_toArray,List.set_cons_succ,List.set_cons_zero]
      try simp only[hq0,hq1,hwr]
      refine Held.one 36 rfl (by kernel_rfl) (fun K hK=>?_)
      go_simp
      refine hK.out _ _ HSS ?_
      clear hK K
      try simp only[List.setIfInBounds_toArray,List.set_cons_succ,List.set_cons_zero]
      try simp only[hq0,hq1,hwr]
      refine Held.one 37 rfl (by kernel_rfl) (fun K hK=>?_)
      go_simp
      refine hK.out _ _ HSS ?_
      clear hK K
      try simp only[List.setIfInBounds_toArray,List.set_cons_succ,List.set_cons_zero]
      try simp only[hq0,hq1,hwr]
      refine Held.one 38 rfl (by kernel_rfl) (fun K hK=>?_)
      go_simp
      refine hK.out _ _ HSS ?_
      clear hK K
      try simp only[List.setIfInBounds_toArray,List.set_cons_succ,List.set_cons_zero]
      try simp only[hq0,hq1,hwr]
      refine wpAnyH_done (by kernel_rfl) ?_ _
      have HBE:=Lib.hid (HFb.out.keep (HSB.out _ HSS))
      go_wp2_with fail
      go_roundw
      case rel=>exact⟨2,by omega,rfl,HBE⟩
      case measure=>simp [intOf]
    ·obtain⟨pl,c,hcp,hcq⟩:=HC2.out 2 (by omega)
     have hcp:CPair w (⟨#[99,108,97,115,115,32]⟩++s) 6 14 e2 a2 pl c:=hcp
     have HP:=Lib.hid hcp
     have q0:=F.out.q69.cell 0
     have q1:=F.out.q69.cell 1
     have q2c:=F.out.q69.cell 2
     have ql:=F.out.q69.lt
     simp only[List.getElem?_toArray,List.getElem?_cons_zero,List.getElem?_cons_succ] at q0 q1 q2c
     clear hcp
     go_wp2_with fail
     refine (HP.out.call wr F.out.b).mono ?_
     rintro e wa ⟨cs,rfl,hown,hba⟩
     obtain⟨x1,x2,x3,o1,o2,o3,o4,o5,n1,l1,n2,l2,n3,l3,n4,l4,n5,l5,rfl,_,hx2,_,hp2,hp3,_⟩:=(hown.at HP.out.small).parts
     rw[hcq] at hx2 hp2 hp3
     rw[HQN.out] at hx2
     subst hx2
     obtain⟨ck,hck⟩:∃ ck,c.kind=ck:=⟨_,rfl⟩
     rw[hck] at hown ⊢
     generalize hci:c.id=ci at *
     generalize hcn:c.n=cn at *
     have HCQ:=Lib.hid hcq
     obtain⟨cs0,hz0,hq0⟩:=(F.out.keep hba).q6
     have HZ:=Lib.hid hq0
     have HSZ:=Lib.hid hz0
     have HFa:=Lib.hid (F.out.keep hba)
     have HOW:=Lib.hid hown
     have HKD:=Lib.hid hck
     clear hba hq0 hz0 hown hck hci hcn hp2 hp3 q0 q1 q2c ql hcq
     go_wp2_with (refine wpList_store_blk rfl 34 _ _ rfl b6 34 _ _ rfl rfl HZ.out (by kernel_rfl) HSZ.out (by simp [Value.oneCell']) ?_)
     intro wb hbb hmb hzb
     have m:MT 0 [34] wa wb:=MT.ofMod hmb HZ.out (by simp) (Nat.zero_le _)
     have hfb:=HFa.out.put h6w hbb rfl hmb HZ.out
     have HFb:=Lib.hid hfb
     have hcb:=((own_mt HOW.out m).at HP.out.small).qcells
     rw[HCQ.out] at hcb
     have hs9:=hfb.o1.strs (by have:=HQ2.out.1;omega)
     have ha9:=hfb.o2.at HQ2.out.2.1 HQ2.out.2.2
     obtain⟨SS,hSS⟩:∃ SS:World->Prop,SS=fun w'=>Blk w' b6 34 #[.int .i64 ck,.string x1,.slice o1 n1 l1,.string qn,.slice o2 n2 l2,.slice o3 n3 l3,.slice o4 n4 l4,.string x3,.int .i64 ci,.int .i64 cn,.slice o5 n5 l5]/\Blk w' b9 29 #[.string qn,.slice ho hl hc,.slice ao al ac]/\Below wb.heap.size wb w':=⟨_,rfl⟩
     have hsd:SS wb.drew:=by rw[hSS];exact⟨hbb.drew,hfb.q9.drew,bdrew (Below.refl _ _)⟩
     have hsk:∀ W W',SS W->Below W.heap.size W W'->SS W':=fun W W' q hb=>by
      rw[hSS] at q ⊢
      exact⟨q.1.below hb q.1.lt,q.2.1.below hb q.2.1.lt,q.2.2.trans (hb.mono q.2.2.size)⟩
     have HSD:=Lib.hid hsd
     have HSK:=Lib.hid hsk
     have HS6:=Lib.hid (fun W (q:SS W)=>(by rw[hSS] at q;exact q.1:Blk W b6 34 #[.int .i64 ck,.string x1,.slice o1 n1 l1,.string qn,.slice o2 n2 l2,.slice o3 n3 l3,.slice o4 n4 l4,.string x3,.int .i64 ci,.int .i64 cn,.slice o5 n5 l5]))
     have HS9:=Lib.hid (fun W (q:SS W)=>(by rw[hSS] at q;exact q.2.1:Blk W b9 29 #[.string qn,.slice ho hl hc,.slice ao al ac]))
     have HSB:=Lib.hid (fun W (q:SS W)=>(by rw[hSS] at q;exact q.2.2:Below wb.heap.size wb W))
     have HSM:=Lib.hid (fun W (q:SS W)=>(by rw[hSS] at q;exact same_any W qn _ _ _ _ q2.head q2.atoms (hs9.keep q.2.2) (hcb.1.keep q.2.2) (ha9.keep q.2.2) (hcb.2.1.keep q.2.2):Calls Tryz.prog 26 #[.agg #[.string qn,.slice ho hl hc,.slice ao al ac],.agg #[.string qn,.slice o2 n2 l2,.slice o3 n3 l3]] W fun e w'=>e=.returned (.bool true)/\Below W.heap.size W w'))
     clear hSS hsd hsk hbb hmb hzb m hfb hcb hs9 ha9 HZ HSZ HFa HOW HCQ F
     go_upto_region 12 with fail
     have HSS:SS wb.drew:=HSD.out
     refine wp_region_held_drew (by kernel_rfl) HSS (fun _=>?_)
     by_cases h0:e2=0
     ·obtain⟨hpl,hkd⟩:=HP.out.good h0
      rw[HKD.out] at hkd
      subst h0 hpl hkd
      clear HP HKD
      refine Held.take 0 84 (v:=?_) rfl rfl (by kernel_rfl) (by kernel_rfl) (by kernel_rfl) (fun _ _ _ _ h=>h) (by kernel_rfl) HSS ?_ ?_
      rotate_left
      ·intro u hu
       go_simp
       try with_reducible rfl
      try simp only[List.setIfInBounds_toArray,List.set_cons_succ,List.set_cons_zero]
      refine Held.one 1 rfl (by kernel_rfl) (fun K hK=>?_)
      go_simp
      refine hK.out _ _ HSS ?_
      clear hK K
      try simp only[List.setIfInBounds_toArray,List.set_cons_succ,List.set_cons_zero]
      refine Held.one 2 rfl (by kernel_rfl) (fun K hK=>?_)
      go_simp
      refine hK.out _ _ HSS ?_
      clear hK K
      try simp only[List.setIfInBounds_toArray,List.set_cons_succ,List.set_cons_zero]
      refine Held.one 3 rfl (by kernel_rfl) (fun K hK=>?_)
      go_simp
      refine hK.out _ _ HSS ?_
      clear hK K
      try simp only[List.setIfInBounds_toArray,List.set_cons_succ,List.set_cons_zero]
      refine Held.take 4 88 (v:=?_) rfl rfl (by kernel_rfl) (by kernel_rfl) (by kernel_rfl) (fun _ _ _ _ h=>h) (by kernel_rfl) HSS ?_ ?_
      rotate_left
      ·intro u hu
       have hq:=HS9.out u hu
       have k0:=hq.cell 0
       have k1:=hq.cell 1
       have k2:=hq.cell 2
       simp only[List.getElem?_toArray,List.getElem?_cons_zero,List.getElem?_cons_succ] at k0 k1 k2
       have kl:=hq.lt
       clear hq hu
       go_simp
       try with_reducible rfl
      try simp only[List.setIfInBounds_toArray,List.set_cons_succ,List.set_cons_zero]
      refine Held.one 5 rfl (by kernel_rfl) (fun K hK=>?_)
      go_simp
      refine hK.out _ _ HSS ?_
      clear hK K
      try simp only[List.setIfInBounds_toArray,List.set_cons_succ,List.set_cons_zero]
      refine Held.one 6 rfl (by kernel_rfl) (fun K hK=>?_)
      have hq:=HS6.out _ HSS
      have k0:=hq.cell 0
      have k1:=hq.cell 1
      have k2:=hq.cell 2
      have k3:=hq.cell 3
      have k4:=hq.cell 4
      have k5:=hq.cell 5
      have k6:=hq.cell 6
      have k7:=hq.cell 7
      have k8:=hq.cell 8
      have k9:=hq.cell 9
      have k10:=hq.cell 10
      simp only[List.getElem?_toArray,List.getElem?_cons_zero,List.getElem?_cons_succ] at k0 k1 k2 k3 k4 k5 k6 k7 k8 k9 k10
      have kl:=hq.lt
      clear hq
      go_simp
      refine hK.out _ _ HSS ?_
      clear hK K k0 k1 k2 k3 k4 k5 k6 k7 k8 k9 k10 kl
      try simp only[List.setIfInBounds_toArray,List.set_cons_succ,List.set_cons_zero]
      refine Held.one 7 rfl (by kernel_rfl) (fun K hK=>?_)
      go_simp
      refine (HSM.out _ HSS).mono ?_
      rintro e w5 ⟨rfl,hbw5⟩
      have HSSw5:=HSK.out _ _ HSS hbw5
      refine hK.out _ _ HSSw5 ?_
      clear hK K HSS hbw5
      rename SS w5=>HSS
      try simp only[List.setIfInBounds_toArray,List.set_cons_succ,List.set_cons_zero]
      refine Held.one 8 rfl (by kernel_rfl) (fun K hK=>?_)
      go_simp
      refine hK.out _ _ HSS ?_
      clear hK K
      try simp only[List.setIfInBounds_toArray,List.set_cons_succ,List.set_cons_zero]
      refine Held.one 9 rfl (by kernel_rfl) (fun K hK=>?_)
      go_simp
      refine hK.out _ _ HSS ?_
      clear hK K
      try simp only[List.setIfInBounds_toArray,List.set_cons_succ,List.set_cons_zero]
      refine Held.one 10 rfl (by kernel_rfl) (fun K hK=>?_)
      go_simp
      refine hK.out _ _ HSS ?_
      clear hK K
      try simp only[List.setIfInBounds_toArray,List.set_cons_succ,List.set_cons_zero]
      refine Held.one 11 rfl (by kernel_rfl) (fun K hK=>?_)
      go_simp
      refine hK.out _ _ HSS ?_
      clear hK K
      try simp only[List.setIfInBounds_toArray,List.set_cons_succ,List.set_cons_zero]
      refine Held.one 12 rfl (by kernel_rfl) (fun K hK=>?_)
      go_simp
      refine hK.out _ _ HSS ?_
      clear hK K
      try simp only[List.setIfInBounds_toArray,List.set_cons_succ,List.set_cons_zero]
      refine Held.one 13 rfl (by kernel_rfl) (fun K hK=>?_)
      go_simp
      refine hK.out _ _ HSS ?_
      clear hK K
      try simp only[List.setIfInBounds_toArray,List.set_cons_succ,List.set_cons_zero]
      refine Held.skip 14 98 rfl rfl (by kernel_rfl) (by kernel_rfl) (by kernel_rfl) (fun _ _ _ _ h=>h) (by kernel_rfl) HSS ?_
      try simp only[List.setIfInBounds_toArray,List.set_cons_succ,List.set_cons_zero]
      refine Held.skip 15 99 rfl rfl (by kernel_rfl) (by kernel_rfl) (by kernel_rfl) (fun _ _ _ _ h=>h) (by kernel_rfl) HSS ?_
      try simp only[List.setIfInBounds_toArray,List.set_cons_succ,List.set_cons_zero]
      refine Held.one 16 rfl (by kernel_rfl) (fun K hK=>?_)
      go_simp
      refine hK.out _ _ HSS ?_
      clear hK K
      try simp only[List.setIfInBounds_toArray,List.set_cons_succ,List.set_cons_zero]
      refine Held.one 17 rfl (by kernel_rfl) (fun K hK=>?_)
      go_simp
      refine hK.out _ _ HSS ?_
      clear hK K
      try simp only[List.setIfInBounds_toArray,List.set_cons_succ,List.set_cons_zero]
      refine Held.one 18 rfl (by kernel_rfl) (fun K hK=>?_)
      go_simp
      refine hK.out _ _ HSS ?_
      clear hK K
      try simp only[List.setIfInBounds_toArray,List.set_cons_succ,List.set_cons_zero]
      refine Held.one 19 rfl (by kernel_rfl) (fun K hK=>?_)
      go_simp
      refine hK.out _ _ HSS ?_
      clear hK K
      try simp only[List.setIfInBounds_toArray,List.set_cons_succ,List.set_cons_zero]
      refine Held.one 20 rfl (by kernel_rfl) (fun K hK=>?_)
      go_simp
      refine hK.out _ _ HSS ?_
      clear hK K
      try simp only[List.setIfInBounds_toArray,List.set_cons_succ,List.set_cons_zero]
      refine Held.one 21 rfl (by kernel_rfl) (fun K hK=>?_)
      go_simp
      refine hK.out _ _ HSS ?_
      clear hK K
      try simp only[List.setIfInBounds_toArray,List.set_cons_succ,List.set_cons_zero]
      refine Held.one 22 rfl (by kernel_rfl) (fun K hK=>?_)
      go_simp
      refine hK.out _ _ HSS ?_
      clear hK K
      try simp only[List.setIfInBounds_toArray,List.set_cons_succ,List.set_cons_zero]
      refine Held.one 23 rfl (by kernel_rfl) (fun K hK=>?_)
      go_simp
      refine hK.out _ _ HSS ?_
      clear hK K
      try simp only[List.setIfInBounds_toArray,List.set_cons_succ,List.set_cons_zero]
      refine Held.one 24 rfl (by kernel_rfl) (fun K hK=>?_)
      go_simp
      refine hK.out _ _ HSS ?_
      clear hK K
      try simp only[List.setIfInBounds_toArray,List.set_cons_succ,List.set_cons_zero]
      refine Held.one 25 rfl (by kernel_rfl) (fun K hK=>?_)
      go_simp
      refine hK.out _ _ HSS ?_
      clear hK K
      try simp only[List.setIfInBounds_toArray,List.set_cons_succ,List.set_cons_zero]
      refine Held.one 26 rfl (by kernel_rfl) (fun K hK=>?_)
      go_simp
      refine hK.out _ _ HSS ?_
      clear hK K
      try simp only[List.setIfInBounds_toArray,List.set_cons_succ,List.set_cons_zero]
      refine Held.one 27 rfl (by kernel_rfl) (fun K hK=>?_)
      go_simp
      refine hK.out _ _ HSS ?_
      clear hK K
      try simp only[List.setIfInBounds_toArray,List.set_cons_succ,List.set_cons_zero]
      refine Held.one 28 rfl (by kernel_rfl) (fun K hK=>?_)
      go_simp
      refine hK.out _ _ HSS ?_
      clear hK K
      try simp only[List.setIfInBounds_toArray,List.set_cons_succ,List.set_cons_zero]
      refine Held.take 29 113 (v:=?_) rfl rfl (by kernel_rfl) (by kernel_rfl) (by kernel_rfl) (fun _ _ _ _ h=>h) (by kernel_rfl) HSS ?_ ?_
      rotate_left
      ·intro u hu
       go_simp
       try with_reducible rfl
      try simp only[List.setIfInBounds_toArray,List.set_cons_succ,List.set_cons_zero]
      refine Held.take 30 114 (v:=?_) rfl rfl (by kernel_rfl) (by kernel_rfl) (by kernel_rfl) (fun _ _ _ _ h=>h) (by kernel_rfl) HSS ?_ ?_
      rotate_left
      ·intro u hu
       have hq:=HS6.out u hu
       have k0:=hq.cell 0
       have k1:=hq.cell 1
       have k2:=hq.cell 2
       have k3:=hq.cell 3
       have k4:=hq.cell 4
       have k5:=hq.cell 5
       have k6:=hq.cell 6
       have k7:=hq.cell 7
       have k8:=hq.cell 8
       have k9:=hq.cell 9
       have k10:=hq.cell 10
       simp only[List.getElem?_toArray,List.getElem?_cons_zero,List.getElem?_cons_succ] at k0 k1 k2 k3 k4 k5 k6 k7 k8 k9 k10
       have kl:=hq.lt
       clear hq hu
       go_simp
       try with_reducible rfl
      try simp only[List.setIfInBounds_toArray,List.set_cons_succ,List.set_cons_zero]
      refine Held.take 32 116 (v:=?_) rfl rfl (by kernel_rfl) (by kernel_rfl) (by kernel_rfl) (fun _ _ _ _ h=>h) (by kernel_rfl) HSS ?_ ?_
      rotate_left
      ·intro u hu
       go_simp
       try with_reducible rfl
      try simp only[List.setIfInBounds_toArray,List.set_cons_succ,List.set_cons_zero]
      refine Held.one 31 rfl (by kernel_rfl) (fun K hK=>?_)
      go_simp
      refine hK.out _ _ (HSK.out _ _ HSS (balloc (Below.refl _ _) _)) ?_
      have HSS6:=HSK.out _ _ HSS (balloc (Below.refl w5.heap.size w5) (.cells #[.int .i64 2,.int .i64 15,.int .i64 14] 22))
      clear hK K HSS
      rename SS _=>HSS
      try simp only[List.setIfInBounds_toArray,List.set_cons_succ,List.set_cons_zero]
      refine Held.one 33 rfl (by kernel_rfl) (fun K hK=>?_)
      go_simp
      refine hK.out _ _ HSS ?_
      clear hK K
      try simp only[List.setIfInBounds_toArray,List.set_cons_succ,List.set_cons_zero]
      refine Held.one 34 rfl (by kernel_rfl) (fun K hK=>?_)
      go_simp
      refine hK.out _ _ HSS ?_
      clear hK K
      try simp only[List.setIfInBounds_toArray,List.set_cons_succ,List.set_cons_zero]
      refine Held.one 35 rfl (by kernel_rfl) (fun K hK=>?_)
      go_simp
      refine hK.out _ _ HSS ?_
      clear hK K
      try simp only[List.setIfInBounds_toArray,List.set_cons_succ,List.set_cons_zero]
      refine Held.one 36 rfl (by kernel_rfl) (fun K hK=>?_)
      go_simp
      refine hK.out _ _ HSS ?_
      clear hK K
      try simp only[List.setIfInBounds_toArray,List.set_cons_succ,List.set_cons_zero]
      refine Held.one 37 rfl (by kernel_rfl) (fun K hK=>?_)
      go_simp
      refine hK.out _ _ HSS ?_
      clear hK K
      try simp only[List.setIfInBounds_toArray,List.set_cons_succ,List.set_cons_zero]
      refine Held.one 38 rfl (by kernel_rfl) (fun K hK=>?_)
      go_simp
      refine hK.out _ _ HSS ?_
      clear hK K
      try simp only[List.setIfInBounds_toArray,List.set_cons_succ,List.set_cons_zero]
      refine wpAnyH_done (by kernel_rfl) ?_ _
      have HBE:=Lib.hid (HFb.out.keep (HSB.out _ HSS))
      go_wp2_with fail
      go_roundw
      case rel=>exact⟨3,by omega,rfl,HBE⟩
      case measure=>simp [intOf]
     ·have hpl:=HP.out.bad h0
      have hq0:(e2 != 0)=true:=by simpa using h0
      have hq1:(e2 == 0)=false:=by simpa using h0
      have hwr:IntKind.i64.wrap (a2+6)=a2+6:=by rw[IntKind.wrap_i64];omega
      subst hpl
      clear HP HKD
      refine Held.take 0 84 (v:=?_) rfl rfl (by kernel_rfl) (by kernel_rfl) (by kernel_rfl) (fun _ _ _ _ h=>h) (by kernel_rfl) HSS ?_ ?_
      rotate_left
      ·intro u hu
       go_simp
       try with_reducible rfl
      try simp only[List.setIfInBounds_toArray,List.set_cons_succ,List.set_cons_zero]
      try simp only[hq0,hq1,hwr]
      refine Held.one 1 rfl (by kernel_rfl) (fun K hK=>?_)
      go_simp
      refine hK.out _ _ HSS ?_
      clear hK K
      try simp only[List.setIfInBounds_toArray,List.set_cons_succ,List.set_cons_zero]
      try simp only[hq0,hq1,hwr]
      refine Held.one 2 rfl (by kernel_rfl) (fun K hK=>?_)
      go_simp
      refine hK.out _ _ HSS ?_
      clear hK K
      try simp only[List.setIfInBounds_toArray,List.set_cons_succ,List.set_cons_zero]
      try simp only[hq0,hq1,hwr]
      refine Held.one 3 rfl (by kernel_rfl) (fun K hK=>?_)
      go_simp
      refine hK.out _ _ HSS ?_
      clear hK K
      try simp only[List.setIfInBounds_toArray,List.set_cons_succ,List.set_cons_zero]
      try simp only[hq0,hq1,hwr]
      refine Held.take 4 88 (v:=?_) rfl rfl (by kernel_rfl) (by kernel_rfl) (by kernel_rfl) (fun _ _ _ _ h=>h) (by kernel_rfl) HSS ?_ ?_
      rotate_left
      ·intro u hu
       have hq:=HS9.out u hu
       have k0:=hq.cell 0
       have k1:=hq.cell 1
       have k2:=hq.cell 2
       simp only[List.getElem?_toArray,List.getElem?_cons_zero,List.getElem?_cons_succ] at k0 k1 k2
       have kl:=hq.lt
       clear hq hu
       go_simp
       try with_reducible rfl
      try simp only[List.setIfInBounds_toArray,List.set_cons_succ,List.set_cons_zero]
      try simp only[hq0,hq1,hwr]
      refine Held.one 5 rfl (by kernel_rfl) (fun K hK=>?_)
      go_simp
      refine hK.out _ _ HSS ?_
      clear hK K
      try simp only[List.setIfInBounds_toArray,List.set_cons_succ,List.set_cons_zero]
      try simp only[hq0,hq1,hwr]
      refine Held.one 6 rfl (by kernel_rfl) (fun K hK=>?_)
      have hq:=HS6.out _ HSS
      have k0:=hq.cell 0
      have k1:=hq.cell 1
      have k2:=hq.cell 2
      have k3:=hq.cell 3
      have k4:=hq.cell 4
      have k5:=hq.cell 5
      have k6:=hq.cell 6
      have k7:=hq.cell 7
      have k8:=hq.cell 8
      have k9:=hq.cell 9
      have k10:=hq.cell 10
      simp only[List.getElem?_toArray,List.getElem?_cons_zero,List.getElem?_cons_succ] at k0 k1 k2 k3 k4 k5 k6 k7 k8 k9 k10
      have kl:=hq.lt
      clear hq
      go_simp
      refine hK.out _ _ HSS ?_
      clear hK K k0 k1 k2 k3 k4 k5 k6 k7 k8 k9 k10 kl
      try simp only[List.setIfInBounds_toArray,List.set_cons_succ,List.set_cons_zero]
      try simp only[hq0,hq1,hwr]
      refine Held.one 7 rfl (by kernel_rfl) (fun K hK=>?_)
      go_simp
      refine (HSM.out _ HSS).mono ?_
      rintro e w5 ⟨rfl,hbw5⟩
      have HSSw5:=HSK.out _ _ HSS hbw5
      refine hK.out _ _ HSSw5 ?_
      clear hK K HSS hbw5
      rename SS w5=>HSS
      try simp only[List.setIfInBounds_toArray,List.set_cons_succ,List.set_cons_zero]
      try simp only[hq0,hq1,hwr]
      refine Held.one 8 rfl (by kernel_rfl) (fun K hK=>?_)
      go_simp
      refine hK.out _ _ HSS ?_
      clear hK K
      try simp only[List.setIfInBounds_toArray,List.set_cons_succ,List.set_cons_zero]
      try simp only[hq0,hq1,hwr]
      refine Held.one 9 rfl (by kernel_rfl) (fun K hK=>?_)
      go_simp
      refine hK.out _ _ HSS ?_
      clear hK K
      try simp only[List.setIfInBounds_toArray,List.set_cons_succ,List.set_cons_zero]
      try simp only[hq0,hq1,hwr]
      refine Held.one 10 rfl (by kernel_rfl) (fun K hK=>?_)
      go_simp
      refine hK.out _ _ HSS ?_
      clear hK K
      try simp only[List.setIfInBounds_toArray,List.set_cons_succ,List.set_cons_zero]
      try simp only[hq0,hq1,hwr]
      refine Held.one 11 rfl (by kernel_rfl) (fun K hK=>?_)
      go_simp
      refine hK.out _ _ HSS ?_
      clear hK K
      try simp only[List.setIfInBounds_toArray,List.set_cons_succ,List.set_cons_zero]
      try simp only[hq0,hq1,hwr]
      refine Held.one 12 rfl (by kernel_rfl) (fun K hK=>?_)
      go_simp
      refine hK.out _ _ HSS ?_
      clear hK K
      try simp only[List.setIfInBounds_toArray,List.set_cons_succ,List.set_cons_zero]
      try simp only[hq0,hq1,hwr]
      refine Held.one 13 rfl (by kernel_rfl) (fun K hK=>?_)
      go_simp
      refine hK.out _ _ HSS ?_
      clear hK K
      try simp only[List.setIfInBounds_toArray,List.set_cons_succ,List.set_cons_zero]
      try simp only[hq0,hq1,hwr]
      refine Held.take 14 98 (v:=?_) rfl rfl (by kernel_rfl) (by kernel_rfl) (by kernel_rfl) (fun _ _ _ _ h=>h) (by kernel_rfl) HSS ?_ ?_
      rotate_left
      ·intro u hu
       go_simp
       try with_reducible rfl
      try simp only[List.setIfInBounds_toArray,List.set_cons_succ,List.set_cons_zero]
      try simp only[hq0,hq1,hwr]
      refine Held.take 15 99 (v:=?_) rfl rfl (by kernel_rfl) (by kernel_rfl) (by kernel_rfl) (fun _ _ _ _ h=>h) (by kernel_rfl) HSS ?_ ?_
      rotate_left
      ·intro u hu
       go_simp
       try with_reducible rfl
      try simp only[List.setIfInBounds_toArray,List.set_cons_succ,List.set_cons_zero]
      try simp only[hq0,hq1,hwr]
      refine Held.one 16 rfl (by kernel_rfl) (fun K hK=>?_)
      go_simp
      refine hK.out _ _ HSS ?_
      clear hK K
      try simp only[List.setIfInBounds_toArray,List.set_cons_succ,List.set_cons_zero]
      try simp only[hq0,hq1,hwr]
      refine Held.one 17 rfl (by kernel_rfl) (fun K hK=>?_)
      go_simp
      refine hK.out _ _ HSS ?_
      clear hK K
      try simp only[List.setIfInBounds_toArray,List.set_cons_succ,List.set_cons_zero]
      try simp only[hq0,hq1,hwr]
      refine Held.one 18 rfl (by kernel_rfl) (fun K hK=>?_)
      go_simp
      refine hK.out _ _ HSS ?_
      clear hK K
      try simp only[List.setIfInBounds_toArray,List.set_cons_succ,List.set_cons_zero]
      try simp only[hq0,hq1,hwr]
      refine Held.one 19 rfl (by kernel_rfl) (fun K hK=>?_)
      go_simp
      refine hK.out _ _ HSS ?_
      clear hK K
      try simp only[List.setIfInBounds_toArray,List.set_cons_succ,List.set_cons_zero]
      try simp only[hq0,hq1,hwr]
      refine Held.one 20 rfl (by kernel_rfl) (fun K hK=>?_)
      go_simp
      refine hK.out _ _ HSS ?_
      clear hK K
      try simp only[List.setIfInBounds_toArray,List.set_cons_succ,List.set_cons_zero]
      try simp only[hq0,hq1,hwr]
      refine Held.one 21 rfl (by kernel_rfl) (fun K hK=>?_)
      go_simp
      refine hK.out _ _ HSS ?_
      clear hK K
      try simp only[List.setIfInBounds_toArray,List.set_cons_succ,List.set_cons_zero]
      try simp only[hq0,hq1,hwr]
      refine Held.one 22 rfl (by kernel_rfl) (fun K hK=>?_)
      go_simp
      refine hK.out _ _ HSS ?_
      clear hK K
      try simp only[List.setIfInBounds_toArray,List.set_cons_succ,List.set_cons_zero]
      try simp only[hq0,hq1,hwr]
      refine Held.one 23 rfl (by kernel_rfl) (fun K hK=>?_)
      go_simp
      refine hK.out _ _ HSS ?_
      clear hK K
      try simp only[List.setIfInBounds_toArray,List.set_cons_succ,List.set_cons_zero]
      try simp only[hq0,hq1,hwr]
      refine Held.one 24 rfl (by kernel_rfl) (fun K hK=>?_)
      go_simp
      refine hK.out _ _ HSS ?_
      clear hK K
      try simp only[List.setIfInBounds_toArray,List.set_cons_succ,List.set_cons_zero]
      try simp only[hq0,hq1,hwr]
      refine Held.one 25 rfl (by kernel_rfl) (fun K hK=>?_)
      go_simp
      refine hK.out _ _ HSS ?_
      clear hK K
      try simp only[List.setIfInBounds_toArray,List.set_cons_succ,List.set_cons_zero]
      try simp only[hq0,hq1,hwr]
      refine Held.one 26 rfl (by kernel_rfl) (fun K hK=>?_)
      go_simp
      refine hK.out _ _ HSS ?_
      clear hK K
      try simp only[List.setIfInBounds_toArray,List.set_cons_succ,List.set_cons_zero]
      try simp only[hq0,hq1,hwr]
      refine Held.one 27 rfl (by kernel_rfl) (fun K hK=>?_)
      go_simp
      refine hK.out _ _ HSS ?_
      clear hK K
      try simp only[List.setIfInBounds_toArray,List.set_cons_succ,List.set_cons_zero]
      try simp only[hq0,hq1,hwr]
      refine Held.one 28 rfl (by kernel_rfl) (fun K hK=>?_)
      go_simp
      refine hK.out _ _ HSS ?_
      clear hK K
      try simp only[List.setIfInBounds_toArray,List.set_cons_succ,List.set_cons_zero]
      try simp only[hq0,hq1,hwr]
      refine Held.skip 29 113 rfl rfl (by kernel_rfl) (by kernel_rfl) (by kernel_rfl) (fun _ _ _ _ h=>h) (by kernel_rfl) HSS ?_
      try simp only[List.setIfInBounds_toArray,List.set_cons_succ,List.set_cons_zero]
      try simp only[hq0,hq1,hwr]
      refine Held.skip 30 114 rfl rfl (by kernel_rfl) (by kernel_rfl) (by kernel_rfl) (fun _ _ _ _ h=>h) (by kernel_rfl) HSS ?_
      try simp only[List.setIfInBounds_toArray,List.set_cons_succ,List.set_cons_zero]
      try simp only[hq0,hq1,hwr]
      refine Held.skip 32 116 rfl rfl (by kernel_rfl) (by kernel_rfl) (by kernel_rfl) (fun _ _ _ _ h=>h) (by kernel_rfl) HSS ?_
      try simp only[List.setIfInBounds_toArray,List.set_cons_succ,List.set_cons_zero]
      try simp only[hq0,hq1,hwr]
      refine Held.one 31 rfl (by kernel_rfl) (fun K hK=>?_)
      go_simp
      refine hK.out _ _ HSS ?_
      clear hK K
      try simp only[List.setIfInBounds_toArray,List.set_cons_succ,List.set_cons_zero]
      try simp only[hq0,hq1,hwr]
      refine Held.one 33 rfl (by kernel_rfl) (fun K hK=>?_)
      go_simp
      refine hK.out _ _ HSS ?_
      clear hK K
      try simp only[List.setIfInBounds_toArray,List.set_cons_succ,List.set_cons_zero]
      try simp only[hq0,hq1,hwr]
      refine Held.one 34 rfl (by kernel_rfl) (fun K hK=>?_)
      go_simp
      refine hK.out _ _ HSS ?_
      clear hK K
      try simp only[List.setIfInBounds_toArray,List.set_cons_succ,List.set_cons_zero]
      try simp only[hq0,hq1,hwr]
      refine Held.one 35 rfl (by kernel_rfl) (fun K hK=>?_)
      go_simp
      refine hK.out _ _ HSS ?_
      clear hK K
      try simp only[List.setIfInBounds_toArray,List.set_cons_succ,List.set_cons_zero]
      try simp only[hq0,hq1,hwr]
      refine Held.one 36 rfl (by kernel_rfl) (fun K hK=>?_)
      go_simp
      refine hK.out _ _ HSS ?_
      clear hK K
      try simp only[List.setIfInBounds_toArray,List.set_cons_succ,List.set_cons_zero]
      try simp only[hq0,hq1,hwr]
      refine Held.one 37 rfl (by kernel_rfl) (fun K hK=>?_)
      go_simp
      refine hK.out _ _ HSS ?_
      clear hK K
      try simp only[List.setIfInBounds_toArray,List.set_cons_succ,List.set_cons_zero]
      try simp only[hq0,hq1,hwr]
      refine Held.one 38 rfl (by kernel_rfl) (fun K hK=>?_)
      go_simp
      refine hK.out _ _ HSS ?_
      clear hK K
      try simp only[List.setIfInBounds_toArray,List.set_cons_succ,List.set_cons_zero]
      try simp only[hq0,hq1,hwr]
      refine wpAnyH_done (by kernel_rfl) ?_ _
      have HBE:=Lib.hid (HFb.out.keep (HSB.out _ HSS))
      go_wp2_with fail
      go_roundw
      case rel=>exact⟨3,by omega,rfl,HBE⟩
      case measure=>simp [intOf]
   ·obtain rfl:k=3:=by omega
    clear hlt hk
    go_wp2_with fail
    refine (HS3.out wr F.out.b).mono ?_
    rintro e w5 ⟨bv,rfl,hch,hb5⟩
    have hchs:∀ W,ChgsOwn wr.heap.size W bv c3.b->ChgsAt W bv c3.b:=fun W h=>h.at (by have:=HC3.out.small.b;omega) (fun x hx=>by have:=HC3.out.small.rows x hx;omega)
    obtain⟨bo,bc,rfl,_,_⟩:=(hchs _ hch).form
    generalize c3.b.length=bl at *
    have HF5:=Lib.hid (F.out.keep hb5)
    have HCH:=Lib.hid hch
    have HCS:=Lib.hid hchs
    clear hch hb5 hchs F
    go_wp2_with fail
    refine (HC3.out.call w5 HF5.out.b).mono ?_
    rintro e w6 ⟨cs,rfl,hown,hb6⟩
    obtain⟨x1,x2,x3,o1,o2,o3,o4,o5,n1,l1,n2,l2,n3,l3,n4,l4,n5,l5,rfl,_,_,_,_,_,_⟩:=(hown.at HC3.out.small).parts
    obtain⟨ck,hck⟩:∃ ck,c3.kind=ck:=⟨_,rfl⟩
    rw[hck] at hown ⊢
    generalize hci:c3.id=ci at *
    generalize hcn:c3.n=cn at *
    obtain⟨cs0,hz0,hq0⟩:=(HF5.out.keep hb6).q6
    have HZ:=Lib.hid hq0
    have HSZ:=Lib.hid hz0
    have HF6:=Lib.hid (HF5.out.keep hb6)
    have HC6:=Lib.hid (HCH.out.mt (MT.ofBelow (B:=0) (Ts:=[34]) hb6) (by decide) (by decide))
    have HOW:=Lib.hid hown
    have HKD:=Lib.hid hck
    clear hb6 hq0 hz0 hown hck hci hcn HF5 HCH
    go_wp2_with (refine wpList_store_blk rfl 34 _ _ rfl b6 34 _ _ rfl rfl HZ.out (by kernel_rfl) HSZ.out (by simp [Value.oneCell']) ?_)
    intro wb hbb hmb hzb
    have m:MT 0 [34] w6 wb:=MT.ofMod hmb HZ.out (by simp) (Nat.zero_le _)
    have hfb:=HF6.out.put h6w hbb rfl hmb HZ.out
    have HBB:=Lib.hid hfb.b
    have HQB:=Lib.hid hbb
    have HCB:=Lib.hid ((own_mt HOW.out m).at HC3.out.small).qcells.2.2
    have HCA:=Lib.hid (HCS.out _ (HC6.out.mt m (by decide) (by decide)))
    clear hbb hmb hzb m hfb HZ HSZ HF6 HC6 HOW HCS
    go_upto_region 17 with fail
    go_cut [169] from 137 (fun s169 wx=>s169=.bool false/\Below wb.heap.size wb wx)
    case first =>
     have k0:=HQB.out.cell 0
     have k6:=HQB.out.cell 6
     have kl:=HQB.out.lt
     simp only[List.getElem?_toArray,List.getElem?_cons_zero,List.getElem?_cons_succ] at k0 k6
     by_cases h0:e3=0
     ·obtain⟨hpl,hkd⟩:=HC3.out.good h0
      rw[HKD.out] at hkd
      subst h0 hpl hkd
      go_wp2_with fail
      refine (sameChgs_any wb (.slice bo bl bc) (.slice o4 n4 l4) c3.b HCA.out HCB.out).mono ?_
      rintro e w8 ⟨rfl,hb8⟩
      have HB8:=Lib.hid hb8
      have hq7:=HQB.out.below hb8 HQB.out.lt
      clear k0 k6 kl
      have k0:=hq7.cell 0
      have kl:=hq7.lt
      simp only[List.getElem?_toArray,List.getElem?_cons_zero] at k0
      clear hb8 hq7
      go_wp2_with fail
      go_meet
      exact⟨by first | rfl | simp,HB8.out⟩
     ·have hpl:=HC3.out.bad h0
      have hq0:(e3 != 0)=true:=by simpa using h0
      have hq1:(e3 == 0)=false:=by simpa using h0
      subst hpl
      go_wp2_with fail
      refine (sameChgs_any wb (.slice bo bl bc) (.slice o4 n4 l4) c3.b HCA.out HCB.out).mono ?_
      rintro e w8 ⟨rfl,hb8⟩
      have HB8:=Lib.hid hb8
      have hq7:=HQB.out.below hb8 HQB.out.lt
      clear k0 k6 kl
      have k0:=hq7.cell 0
      have kl:=hq7.lt
      simp only[List.getElem?_toArray,List.getElem?_cons_zero] at k0
      clear hb8 hq7
      go_wp2_with fail
      go_meet
      exact⟨by first | rfl | simp,HB8.out⟩
    case rest =>
     obtain⟨rfl,hbc⟩:=hcut
     rename_i KK hKK
     refine hKK _ _ ?_
     clear hKK KK
     have HBE:=Lib.hid (HBB.out.trans (hbc.mono HBB.out.size))
     have HA:=Lib.hid (HAW.out _ HBE.out)
     clear hbc
     go_wp2_with fail
     refine HA.out.mono ?_
     rintro e w9 ⟨rfl,hb9⟩
     have HB9:=Lib.hid (HBE.out.trans (hb9.mono HBE.out.size))
     clear hb9
     go_wp2_with fail
     go_ret
     exact⟨by first | rfl | simp,HB9.out⟩
theorem inner_card (s:ByteArray) (w:World) (hs:s.size<=140737488351232) (hg:GlobW w) :
 Calls Tryz.prog 8 #[.string s] w fun e w'=>e=.returned (.bool true)/\Below w.heap.size w w':=by
 by_cases h:s.size<=16000
 ·exact inner_short s w h hg
 ·exact inner_long s w (by omega) hg
end Go.Proofs.YtamjadghncnbcaaGreatDoor
