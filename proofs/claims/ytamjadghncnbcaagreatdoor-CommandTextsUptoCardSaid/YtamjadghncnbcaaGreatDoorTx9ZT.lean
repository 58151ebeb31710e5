/- CommandTexts, walked (printed by mktx9.py). -/
import Derived.Test.YtamjadghncnbcaaGreatDoorCtxZT
import Derived.Test.YtamjadghncnbcaaGreatDoorCrtZT
import Derived.Test.YtamjadghncnbcaaGreatDoorTsT
import Derived.Test.YtamjadghncnbcaaGreatDoorTcT
import Derived.Test.YtamjadghncnbcaaGreatDoorDwT
namespace Go.Proofs.YtamjadghncnbcaaGreatDoor
open Go.RowKit
set_option linter.unusedVariables false
set_option maxHeartbeats 8000000 in
set_option maxRecDepth 100000 in
theorem cmdtexts_law (w:World) (cells:Array Value) (c:Cmd) (h:CmdAt w cells c) (hB:TxtB c) (hn1:c.rel.cols.length<=5864062014634) (hn2:c.q.atoms.length<=3518437208780) (hn3:c.b.length<=2932031007402) (hn4:c.row.length<=4398046511104) (hg:GlobW w) :
 Calls Tryz.prog 4 #[.agg cells] w fun e w'=>e=.returned (.bool true)/\Below w.heap.size w w':=by
 obtain⟨x1,x2,x3,o1,o2,o3,o4,o5,n1,l1,n2,l2,n3,l3,n4,l4,n5,l5,rfl⟩:=h.form
 obtain⟨TX,hTX⟩:∃ TX,textC c=TX:=⟨_,rfl⟩
 have HCP:=Lib.hid (fun W (hW:Below w.heap.size w W)=>copied_any W _ c (h.keep hW) hn1 hn2 hn3 hn4)
 have HTX:=Lib.hid (fun W ca (hc:CmdAt W ca c) (hW:Below w.heap.size w W)=>(hTX ▸ text_any W ca c hc hB (hg.below hW)))
 have HRT:=Lib.hid (fun W ca (hc:CmdAt W ca c)=>(hTX ▸ refTextC_any W ca c hc hB))
 have HSM:=Lib.hid (fun W ca cb (h1:CmdAt W ca c) (h2:CmdAt W cb c)=>sameCmd_any W ca cb c h1 h2)
 have HAW:=Lib.hid (fun W (hW:Below w.heap.size w W)=>awake25n W (hg.below hW))
 have HAT:=Lib.hid h
 obtain⟨ck,hck⟩:∃ ck,c.kind=ck:=⟨_,rfl⟩
 obtain⟨ci,hci⟩:∃ ci,c.id=ci:=⟨_,rfl⟩
 obtain⟨cn,hcn⟩:∃ cn,c.n=cn:=⟨_,rfl⟩
 have HK:=Lib.hid (And.intro hck (And.intro hci hcn))
 rw[hck,hci,hcn] at HAT HCP ⊢
 clear h hB hn1 hn2 hn3 hn4 hg hTX hck hci hcn
 have hb0:Below w.heap.size w (w.alloc (.cells #[.int .i64 ck,.string x1,.slice o1 n1 l1,.string x2,.slice o2 n2 l2,.slice o3 n3 l3,.slice o4 n4 l4,.string x3,.int .i64 ci,.int .i64 cn,.slice o5 n5 l5] 34)):=balloc (Below.refl _ _) _
 have hq:=Blk.new w 34 #[.int .i64 ck,.string x1,.slice o1 n1 l1,.string x2,.slice o2 n2 l2,.slice o3 n3 l3,.slice o4 n4 l4,.string x3,.int .i64 ci,.int .i64 cn,.slice o5 n5 l5]
 obtain⟨W0,hW0⟩:∃ W0,w.alloc (.cells #[.int .i64 ck,.string x1,.slice o1 n1 l1,.string x2,.slice o2 n2 l2,.slice o3 n3 l3,.slice o4 n4 l4,.string x3,.int .i64 ci,.int .i64 cn,.slice o5 n5 l5] 34)=W0:=⟨_,rfl⟩
 rw[hW0] at hb0 hq
 have k0:=hq.cell 0
 have k1:=hq.cell 1
 have k2:=hq.cell 2
 have k3:=hq.cell 3
 have k4:=hq.cell 4
 have k5:=hq.cell 5
 have k6:=hq.cell 6
 have k7:=hq.cell 7
 have k8:=hq.cell 8
 have k9:=hq.cell 9
 have k10:=hq.cell 10
 have kl:=hq.lt
 simp only[List.getElem?_toArray,List.getElem?_cons_zero,List.getElem?_cons_succ] at k0 k1 k2 k3 k4 k5 k6 k7 k8 k9 k10
 have HB0:=Lib.hid hb0
 have HQ:=Lib.hid hq
 have HW0:=Lib.hid hW0
 clear hb0 hq hW0
 go_enter Tryz.func4,Tryz.ntmps4
 go_upto_region 1 with fail
 rw[HW0.out]
 go_wp2_with fail
 refine (HCP.out W0 HB0.out).mono ?_
 rintro e w1 ⟨cells',rfl,hat,hb1⟩
 obtain⟨y1,y2,y3,p1,p2,p3,p4,p5,m1,e1,m2,e2,m3,e3,m4,e4,m5,e5,rfl⟩:=hat.form
 rw[HK.out.1,HK.out.2.1,HK.out.2.2] at hat ⊢
 clear k0 k1 k2 k3 k4 k5 k6 k7 k8 k9 k10 kl
 have hq1:=(HQ.out.below hb1 HQ.out.lt).alloc (.cells #[.int .i64 ck,.string y1,.slice p1 m1 e1,.string y2,.slice p2 m2 e2,.slice p3 m3 e3,.slice p4 m4 e4,.string y3,.int .i64 ci,.int .i64 cn,.slice p5 m5 e5] 34)
 have hn1:=Blk.new w1 34 #[.int .i64 ck,.string y1,.slice p1 m1 e1,.string y2,.slice p2 m2 e2,.slice p3 m3 e3,.slice p4 m4 e4,.string y3,.int .i64 ci,.int .i64 cn,.slice p5 m5 e5]
 have hbw:=balloc (HB0.out.trans (hb1.mono HB0.out.size)) (.cells #[.int .i64 ck,.string y1,.slice p1 m1 e1,.string y2,.slice p2 m2 e2,.slice p3 m3 e3,.slice p4 m4 e4,.string y3,.int .i64 ci,.int .i64 cn,.slice p5 m5 e5] 34)
 have hat1:=hat.keep (balloc (Below.refl w1.heap.size w1) (.cells #[.int .i64 ck,.string y1,.slice p1 m1 e1,.string y2,.slice p2 m2 e2,.slice p3 m3 e3,.slice p4 m4 e4,.string y3,.int .i64 ci,.int .i64 cn,.slice p5 m5 e5] 34))
 have hac1:=HAT.out.keep hbw
 obtain⟨W1,hW1⟩:∃ W1,w1.alloc (.cells #[.int .i64 ck,.string y1,.slice p1 m1 e1,.string y2,.slice p2 m2 e2,.slice p3 m3 e3,.slice p4 m4 e4,.string y3,.int .i64 ci,.int .i64 cn,.slice p5 m5 e5] 34)=W1:=⟨_,rfl⟩
 obtain⟨bi,hbi⟩:∃ bi,w1.heap.size=bi:=⟨_,rfl⟩
 obtain⟨b,hbb⟩:∃ b,w.heap.size=b:=⟨_,rfl⟩
 rw[hW1] at hq1 hn1 hbw hat1 hac1
 have HW1:=Lib.hid (And.intro hW1 (And.intro hbi hbb))
 rw[hbi] at hn1
 rw[hbb] at hq1
 obtain⟨SS,hSS⟩:∃ SS:World->Prop,SS=fun w'=>Blk w' b 34 #[.int .i64 ck,.string x1,.slice o1 n1 l1,.string x2,.slice o2 n2 l2,.slice o3 n3 l3,.slice o4 n4 l4,.string x3,.int .i64 ci,.int .i64 cn,.slice o5 n5 l5]/\Blk w' bi 34 #[.int .i64 ck,.string y1,.slice p1 m1 e1,.string y2,.slice p2 m2 e2,.slice p3 m3 e3,.slice p4 m4 e4,.string y3,.int .i64 ci,.int .i64 cn,.slice p5 m5 e5]/\Below W1.heap.size W1 w':=⟨_,rfl⟩
 have hsd:SS W1.drew:=by rw[hSS];exact⟨hq1.drew,hn1.drew,bdrew (Below.refl _ _)⟩
 have hsk:∀ W W',SS W->Below W.heap.size W W'->SS W':=fun W W' q hb=>by
  rw[hSS] at q ⊢
  exact⟨q.1.below hb q.1.lt,q.2.1.below hb q.2.1.lt,q.2.2.trans (hb.mono q.2.2.size)⟩
 have HSD:=Lib.hid hsd
 have HSK:=Lib.hid hsk
 have HSC:=Lib.hid (fun W (q:SS W)=>(by rw[hSS] at q;exact q.1:Blk W b 34 #[.int .i64 ck,.string x1,.slice o1 n1 l1,.string x2,.slice o2 n2 l2,.slice o3 n3 l3,.slice o4 n4 l4,.string x3,.int .i64 ci,.int .i64 cn,.slice o5 n5 l5]))
 have HSI:=Lib.hid (fun W (q:SS W)=>(by rw[hSS] at q;exact q.2.1:Blk W bi 34 #[.int .i64 ck,.string y1,.slice p1 m1 e1,.string y2,.slice p2 m2 e2,.slice p3 m3 e3,.slice p4 m4 e4,.string y3,.int .i64 ci,.int .i64 cn,.slice p5 m5 e5]))
 have HSB:=Lib.hid (fun W (q:SS W)=>(by rw[hSS] at q;exact hbw.trans (q.2.2.mono hbw.size):Below w.heap.size w W))
 have HAI:=Lib.hid (fun W (q:SS W)=>(by rw[hSS] at q;exact hat1.keep q.2.2:CmdAt W #[.int .i64 ck,.string y1,.slice p1 m1 e1,.string y2,.slice p2 m2 e2,.slice p3 m3 e3,.slice p4 m4 e4,.string y3,.int .i64 ci,.int .i64 cn,.slice p5 m5 e5] c))
 have HAC:=Lib.hid (fun W (q:SS W)=>(by rw[hSS] at q;exact hac1.keep q.2.2:CmdAt W #[.int .i64 ck,.string x1,.slice o1 n1 l1,.string x2,.slice o2 n2 l2,.slice o3 n3 l3,.slice o4 n4 l4,.string x3,.int .i64 ci,.int .i64 cn,.slice o5 n5 l5] c))
 clear hSS hsd hsk hq1 hn1 hbw hat1 hac1 hat hb1 hW1 hbi hbb HB0 HQ HW0 HCP HAT
 go_upto_region 2 with fail
 rw[HW1.out.1,HW1.out.2.1,HW1.out.2.2]
 clear HW1
 have HSS:SS W1.drew:=HSD.out
 refine wp_region_held_drew (by kernel_rfl) HSS (fun _=>?_)
 refine Held.one 0 rfl (by kernel_rfl) (fun K hK=>?_)
 go_simp
 refine (HAW.out _ (HSB.out _ HSS)).mono ?_
 rintro e w2 ⟨rfl,hbw2⟩
 have HSSw2:=HSK.out _ _ HSS hbw2
 refine hK.out _ _ HSSw2 ?_
 clear hK K HSS hbw2
 rename SS w2=>HSS
 try simp only[List.setIfInBounds_toArray,List.set_cons_succ,List.set_cons_zero]
 refine Held.one 1 rfl (by kernel_rfl) (fun K hK=>?_)
 go_simp
 refine hK.out _ _ HSS ?_
 clear hK K
 try simp only[List.setIfInBounds_toArray,List.set_cons_succ,List.set_cons_zero]
 refine Held.take 2 8 (v:=?_) rfl rfl (by kernel_rfl) (by kernel_rfl) (by kernel_rfl) (fun _ _ _ _ h=>h) (by kernel_rfl) HSS ?_ ?_
 rotate_left
 ·intro u hu
  have hq:=HSI.out u hu
  have k0:=hq.cell 0
  have k1:=hq.cell 1
  have k2:=hq.cell 2
  have k3:=hq.cell 3
  have k4:=hq.cell 4
  have k5:=hq.cell 5
  have k6:=hq.cell 6
  have k7:=hq.cell 7
  have k8:=hq.cell 8
  have k9:=hq.cell 9
  have k10:=hq.cell 10
  simp only[List.getElem?_toArray,List.getElem?_cons_zero,List.getElem?_cons_succ] at k0 k1 k2 k3 k4 k5 k6 k7 k8 k9 k10
  have kl:=hq.lt
  clear hq hu
  go_simp
  try with_reducible rfl
 try simp only[List.setIfInBounds_toArray,List.set_cons_succ,List.set_cons_zero]
 refine Held.take 4 10 (v:=?_) rfl rfl (by kernel_rfl) (by kernel_rfl) (by kernel_rfl) (fun _ _ _ _ h=>h) (by kernel_rfl) HSS ?_ ?_
 rotate_left
 ·intro u hu
  have hq:=HSC.out u hu
  have k0:=hq.cell 0
  have k1:=hq.cell 1
  have k2:=hq.cell 2
  have k3:=hq.cell 3
  have k4:=hq.cell 4
  have k5:=hq.cell 5
  have k6:=hq.cell 6
  have k7:=hq.cell 7
  have k8:=hq.cell 8
  have k9:=hq.cell 9
  have k10:=hq.cell 10
  simp only[List.getElem?_toArray,List.getElem?_cons_zero,List.getElem?_cons_succ] at k0 k1 k2 k3 k4 k5 k6 k7 k8 k9 k10
  have kl:=hq.lt
  clear hq hu
  go_simp
  try with_reducible rfl
 try simp only[List.setIfInBounds_toArray,List.set_cons_succ,List.set_cons_zero]
 refine Held.one 3 rfl (by kernel_rfl) (fun K hK=>?_)
 go_simp
 refine (HTX.out _ _ (HAI.out _ HSS) (HSB.out _ HSS)).mono ?_
 rintro e w3 ⟨rfl,hbw3⟩
 have HSSw3:=HSK.out _ _ HSS hbw3
 refine hK.out _ _ HSSw3 ?_
 clear hK K HSS hbw3
 rename SS w3=>HSS
 try simp only[List.setIfInBounds_toArray,List.set_cons_succ,List.set_cons_zero]
 refine Held.one 5 rfl (by kernel_rfl) (fun K hK=>?_)
 go_simp
 refine (of_any _ ck ci cn x1 x2 x3 o1 o2 o3 o4 o5 n1 l1 n2 l2 n3 l3 n4 l4 n5 l5).mono ?_
 rintro e w4 ⟨rfl,hbw4⟩
 have HSSw4:=HSK.out _ _ HSS hbw4
 refine hK.out _ _ HSSw4 ?_
 clear hK K HSS hbw4
 rename SS w4=>HSS
 try simp only[List.setIfInBounds_toArray,List.set_cons_succ,List.set_cons_zero]
 refine Held.one 6 rfl (by kernel_rfl) (fun K hK=>?_)
 go_simp
 refine (HRT.out _ _ (HAC.out _ HSS)).mono ?_
 rintro e w5 ⟨rfl,hbw5⟩
 have HSSw5:=HSK.out _ _ HSS hbw5
 refine hK.out _ _ HSSw5 ?_
 clear hK K HSS hbw5
 rename SS w5=>HSS
 try simp only[List.setIfInBounds_toArray,List.set_cons_succ,List.set_cons_zero]
 refine Held.one 7 rfl (by kernel_rfl) (fun K hK=>?_)
 go_simp
 refine hK.out _ _ HSS ?_
 clear hK K
 try simp only[List.setIfInBounds_toArray,List.set_cons_succ,List.set_cons_zero]
 refine Held.one 8 rfl (by kernel_rfl) (fun K hK=>?_)
 go_simp
 refine hK.out _ _ HSS ?_
 clear hK K
 try simp only[List.setIfInBounds_toArray,List.set_cons_succ,List.set_cons_zero]
 refine Held.one 9 rfl (by kernel_rfl) (fun K hK=>?_)
 go_simp
 refine hK.out _ _ HSS ?_
 clear hK K
 try simp only[List.setIfInBounds_toArray,List.set_cons_succ,List.set_cons_zero]
 refine Held.take 10 16 (v:=?_) rfl rfl (by kernel_rfl) (by kernel_rfl) (by kernel_rfl) (fun _ _ _ _ h=>h) (by kernel_rfl) HSS ?_ ?_
 rotate_left
 ·intro u hu
  have hq:=HSI.out u hu
  have k0:=hq.cell 0
  have k1:=hq.cell 1
  have k2:=hq.cell 2
  have k3:=hq.cell 3
  have k4:=hq.cell 4
  have k5:=hq.cell 5
  have k6:=hq.cell 6
  have k7:=hq.cell 7
  have k8:=hq.cell 8
  have k9:=hq.cell 9
  have k10:=hq.cell 10
  simp only[List.getElem?_toArray,List.getElem?_cons_zero,List.getElem?_cons_succ] at k0 k1 k2 k3 k4 k5 k6 k7 k8 k9 k10
  have kl:=hq.lt
  clear hq hu
  go_simp
  try with_reducible rfl
 try simp only[List.setIfInBounds_toArray,List.set_cons_succ,List.set_cons_zero]
 refine Held.take 12 18 (v:=?_) rfl rfl (by kernel_rfl) (by kernel_rfl) (by kernel_rfl) (fun _ _ _ _ h=>h) (by kernel_rfl) HSS ?_ ?_
 rotate_left
 ·intro u hu
  have hq:=HSC.out u hu
  have k0:=hq.cell 0
  have k1:=hq.cell 1
  have k2:=hq.cell 2
  have k3:=hq.cell 3
  have k4:=hq.cell 4
  have k5:=hq.cell 5
  have k6:=hq.cell 6
  have k7:=hq.cell 7
  have k8:=hq.cell 8
  have k9:=hq.cell 9
  have k10:=hq.cell 10
  simp only[List.getElem?_toArray,List.getElem?_cons_zero,List.getElem?_cons_succ] at k0 k1 k2 k3 k4 k5 k6 k7 k8 k9 k10
  have kl:=hq.lt
  clear hq hu
  go_simp
  try with_reducible rfl
 try simp only[List.setIfInBounds_toArray,List.set_cons_succ,List.set_cons_zero]
 refine Held.one 11 rfl (by kernel_rfl) (fun K hK=>?_)
 go_simp
 refine (of_any _ ck ci cn y1 y2 y3 p1 p2 p3 p4 p5 m1 e1 m2 e2 m3 e3 m4 e4 m5 e5).mono ?_
 rintro e w6 ⟨rfl,hbw6⟩
 have HSSw6:=HSK.out _ _ HSS hbw6
 refine hK.out _ _ HSSw6 ?_
 clear hK K HSS hbw6
 rename SS w6=>HSS
 try simp only[List.setIfInBounds_toArray,List.set_cons_succ,List.set_cons_zero]
 refine Held.one 13 rfl (by kernel_rfl) (fun K hK=>?_)
 go_simp
 refine (of_any _ ck ci cn x1 x2 x3 o1 o2 o3 o4 o5 n1 l1 n2 l2 n3 l3 n4 l4 n5 l5).mono ?_
 rintro e w7 ⟨rfl,hbw7⟩
 have HSSw7:=HSK.out _ _ HSS hbw7
 refine hK.out _ _ HSSw7 ?_
 clear hK K HSS hbw7
 rename SS w7=>HSS
 try simp only[List.setIfInBounds_toArray,List.set_cons_succ,List.set_cons_zero]
 refine Held.one 14 rfl (by kernel_rfl) (fun K hK=>?_)
 go_simp
 refine (HSM.out _ _ _ (HAI.out _ HSS) (HAC.out _ HSS)).mono ?_
 rintro e w8 ⟨rfl,hbw8⟩
 have HSSw8:=HSK.out _ _ HSS hbw8
 refine hK.out _ _ HSSw8 ?_
 clear hK K HSS hbw8
 rename SS w8=>HSS
 try simp only[List.setIfInBounds_toArray,List.set_cons_succ,List.set_cons_zero]
 refine Held.one 15 rfl (by kernel_rfl) (fun K hK=>?_)
 go_simp
 refine hK.out _ _ HSS ?_
 clear hK K
 try simp only[List.setIfInBounds_toArray,List.set_cons_succ,List.set_cons_zero]
 refine Held.one 16 rfl (by kernel_rfl) (fun K hK=>?_)
 go_simp
 refine hK.out _ _ HSS ?_
 clear hK K
 try simp only[List.setIfInBounds_toArray,List.set_cons_succ,List.set_cons_zero]
 refine wpAnyH_done (by kernel_rfl) ?_ _
 have HBE:=Lib.hid (HSB.out _ HSS)
 go_wp2_with fail
 go_ret
 exact⟨by first | rfl | simp,HBE.out⟩
end Go.Proofs.YtamjadghncnbcaaGreatDoor
