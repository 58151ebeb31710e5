/- What the reach, and a bounded bulk, promise of a command's text. CommandBack, walked (printed by mkbk9.py). CommandBack, of a command within the reach. -/
import Derived.Test.YtamjadghncnbcaaGreatDoorCtaZB
import Derived.Test.YtamjadghncnbcaaGreatDoorTpB
import Derived.Test.YtamjadghncnbcaaGreatDoorBbB
import Derived.Test.YtamjadghncnbcaaGreatDoorBkB
import Derived.Test.YtamjadghncnbcaaGreatDoorCtxZB
import Derived.Test.YtamjadghncnbcaaGreatDoorTsB
import Derived.Test.YtamjadghncnbcaaGreatDoorDdB
import Derived.Test.YtamjadghncnbcaaGreatDoorDxB
namespace Go.Proofs.YtamjadghncnbcaaGreatDoor
open Go.RowKit
set_option linter.unusedVariables false
theorem BigC.txt {w:World} {cells:Array Value} {c:Cmd} {N:Nat} (h:BigC w cells c N) (hN:N<=1048576):TxtB c:=by
 have hb:c.b.length<=1048576:=Nat.le_trans h.bulk hN
 exact⟨h.rname,h.cols,h.qname,h.heads,fun a ha=>⟨(h.each a ha).1,fun t ht=>((h.each a ha).2 t ht).2⟩,fun a ha t ht=>((h.each a ha).2 t ht).1,h.batch,h.brel,hb,
  fun hg=>by
   have:=joinC_len (b:=c.b) (fun x hx=>List.all_eq_true.1 hg x hx) h.batch
   omega,h.name,h.id,h.n,h.row⟩
theorem norm_txt {c:Cmd} (h:TxtB c):TxtB (normC c):=by
 have h0:TxtB cmd0:=⟨Nat.zero_le _,(fun _ h=>by cases h),Nat.zero_le _,(fun _ h=>by cases h),(fun _ h=>by cases h),(fun _ h=>by cases h),(fun _ h=>by cases h),(fun _ h=>by cases h),Nat.zero_le _,(fun _=>by simp [cmd0,Lib.join_nil]),Nat.zero_le _,by decide,by decide,(fun _ h=>by cases h)⟩
 unfold normC
 repeat' split
 ·exact⟨h.rname,h.cols,h0.qname,h0.heads,h0.atoms,h0.range,h0.batch,h0.brel,h0.nb,h0.join,h0.nm,h0.id,h0.n,h0.row⟩
 ·exact⟨h0.rname,h0.cols,h.qname,h.heads,h.atoms,h.range,h0.batch,h0.brel,h0.nb,h0.join,h0.nm,h0.id,h0.n,h0.row⟩
 ·exact⟨h0.rname,h0.cols,h0.qname,h0.heads,h0.atoms,h0.range,h.batch,h.brel,h.nb,h.join,h0.nm,h0.id,h0.n,h0.row⟩
 ·exact⟨h0.rname,h0.cols,h0.qname,h0.heads,h0.atoms,h0.range,h0.batch,h0.brel,h0.nb,h0.join,h.nm,h0.id,h0.n,h0.row⟩
 ·exact⟨h0.rname,h0.cols,h0.qname,h0.heads,h0.atoms,h0.range,h0.batch,h0.brel,h0.nb,h0.join,h0.nm,h.id,h0.n,h0.row⟩
 ·exact⟨h0.rname,h0.cols,h0.qname,h0.heads,h0.atoms,h0.range,h0.batch,h0.brel,h0.nb,h0.join,h0.nm,h.id,h.n,h0.row⟩
 ·exact⟨h0.rname,h0.cols,h0.qname,h0.heads,h0.atoms,h0.range,h0.batch,h0.brel,h0.nb,h0.join,h.nm,h0.id,h.n,h0.row⟩
 ·exact⟨h0.rname,h0.cols,h0.qname,h0.heads,h0.atoms,h0.range,h0.batch,h0.brel,h0.nb,h0.join,h.nm,h0.id,h0.n,h.row⟩
 ·exact⟨h0.rname,h0.cols,h0.qname,h0.heads,h0.atoms,h0.range,h0.batch,h0.brel,h0.nb,h0.join,h0.nm,h0.id,h0.n,h0.row⟩
theorem text_len {c:Cmd} (h:TxtB c):(textC c).length<=281474976710656:=by
 by_cases hk:1<=c.kind/\c.kind<=18
 case neg=>rw[textC_out hk];simp
 rw[textC_rest hk.1 hk.2]
 have hw:=wordN_len c.kind
 have h1:=Lib.itoa_length_le c.id h.id.1 h.id.2
 have h2:=Lib.itoa_length_le c.n h.n.1 h.n.2
 have h3:=h.nm
 have h4:=showBt_len h.join
 have h5:(showC c.rel.name c.rel.cols).length<=16384:=by
  by_cases q:chkC c.rel.name c.rel.cols=0
  ·exact (show_len q).2
  ·unfold showC
   rw[if_neg q]
   simp
 have h6:(showQ c.q).length<=16384:=by
  unfold showQ
  split
  ·rename_i q
   exact (qT_len (chkQ_right q) h.range).2.1
  ·simp
 have h7:(showRow c.row).length<=7802:=by
  unfold showRow
  split
  ·rename_i q
   exact (rowT_size q h.row).2
  ·simp
 have hr:(restG c).1.length<=140737488365000:=by
  unfold restG
  repeat' split
  all_goals
   simp only[List.length_append,List.length_cons,List.length_nil]
   omega
 split
 ·simp
 ·split
  ·omega
  ·simp only[List.length_append,List.length_cons]
   omega
set_option maxHeartbeats 8000000 in
set_option maxRecDepth 100000 in
theorem cmdback_law (w:World) (cells:Array Value) (c:Cmd) (h:CmdAt w cells c) (hB:TxtB c) (hn1:c.rel.cols.length<=5864062014634) (hn2:c.q.atoms.length<=3518437208780) (hn3:c.b.length<=2932031007402) (hn4:c.row.length<=4398046511104) (hg:GlobW w) :
 Calls Tryz.prog 6 #[.agg cells] w fun e w'=>e=.returned (.bool true)/\Below w.heap.size w w':=by
 obtain⟨x1,x2,x3,o1,o2,o3,o4,o5,n1,l1,n2,l2,n3,l3,n4,l4,n5,l5,hcells⟩:=h.form
 have hn4b:n4=c.b.length:=by
  obtain⟨cv,hv,av,bv,rv,hh,_,_,_,h4,_⟩:=h
  obtain⟨o,l,rfl,_,_⟩:=h4.form
  rw[hh] at hcells
  injection hcells with hcells
  simp only[List.cons.injEq,Value.slice.injEq] at hcells
  exact hcells.2.2.2.2.2.2.1.2.1.symm
 subst hcells
 have hlen:=text_len hB
 have hback:=cmd_back hB
 have hmany:=cmd_many hB
 have HCP:=Lib.hid (fun W (hW:Below w.heap.size w W)=>copied_any W _ c (h.keep hW) hn1 hn2 hn3 hn4)
 have HTX:=Lib.hid (fun W ca (hc:CmdAt W ca c) (hW:Below w.heap.size w W)=>text_any W ca c hc hB (hg.below hW))
 have HTN:=Lib.hid (fun W ca (hc:CmdAt W ca (normC c)) (hW:Below w.heap.size w W)=>(norm_text c ▸ text_any W ca (normC c) hc (norm_txt hB) (hg.below hW)))
 have HAW:=Lib.hid (fun W (hW:Below w.heap.size w W)=>awake25 W (hg.below hW))
 obtain⟨TX,hTX⟩:∃ TX,textC c=TX:=⟨_,rfl⟩
 rw[hTX] at hlen hback hmany HTX HTN
 have hsm:=fun x r (q:cmdT TX=.ok x r)=>cmdT_small q
 have HPA:=Lib.hid (fun W (hW:Below w.heap.size w W)=>cmd_any ⟨TX.toArray⟩ W (by show TX.length<=_;exact hlen) (hg.below hW))
 have hpx:cmdT (⟨TX.toArray⟩:ByteArray).data.toList=cmdT TX:=by simp
 rw[hpx] at HPA
 have HSM:=Lib.hid hsm
 have HBK:=Lib.hid hback
 have HMY:=Lib.hid hmany
 have HLG:=Lib.hid (fun (q:16384<TX.length)=>cmd_long q)
 have HNK:=Lib.hid (norm_kind c)
 clear h hB hn1 hn2 hn3 hn4 hg hTX hsm hback hmany hpx
 generalize hck:c.kind=ck at *
 generalize hci:c.id=ci at *
 generalize hcn:c.n=cn at *
 rw[<-hn4b] at HMY HBK
 have HK:=Lib.hid hck
 clear hci hcn hn4b hck
 have hb0:Below w.heap.size w (w.alloc (.cells #[.int .i64 ck,.string x1,.slice o1 n1 l1,.string x2,.slice o2 n2 l2,.slice o3 n3 l3,.slice o4 n4 l4,.string x3,.int .i64 ci,.int .i64 cn,.slice o5 n5 l5] 34)):=balloc (Below.refl _ _) _
 have hq:=Blk.new w 34 #[.int .i64 ck,.string x1,.slice o1 n1 l1,.string x2,.slice o2 n2 l2,.slice o3 n3 l3,.slice o4 n4 l4,.string x3,.int .i64 ci,.int .i64 cn,.slice o5 n5 l5]
 obtain⟨W0,hW0⟩:∃ W0,w.alloc (.cells #[.int .i64 ck,.string x1,.slice o1 n1 l1,.string x2,.slice o2 n2 l2,.slice o3 n3 l3,.slice o4 n4 l4,.string x3,.int .i64 ci,.int .i64 cn,.slice o5 n5 l5] 34)=W0:=⟨_,rfl⟩
 rw[hW0] at hb0 hq
 have k0:=hq.cell 0
 have k1:=hq.cell 1
 have k2:=hq.cell 2
 have k3:=hq.cell 3
 have k4:=hq.cell 4
 have k5:=hq.cell 5
 have k6:=hq.cell 6
 have k7:=hq.cell 7
 have k8:=hq.cell 8
 have k9:=hq.cell 9
 have k10:=hq.cell 10
 have kl:=hq.lt
 simp only[List.getElem?_toArray,List.getElem?_cons_zero,List.getElem?_cons_succ] at k0 k1 k2 k3 k4 k5 k6 k7 k8 k9 k10
 have HB0:=Lib.hid hb0
 have HQ:=Lib.hid hq
 have HW0:=Lib.hid hW0
 clear hb0 hq hW0
 go_enter Tryz.func6,Tryz.ntmps6
 go_upto_region 1 with fail
 rw[HW0.out]
 go_wp2_with fail
 refine (HCP.out W0 HB0.out).mono ?_
 rintro e w1 ⟨cells',rfl,hat,hb1⟩
 clear k0 k1 k2 k3 k4 k5 k6 k7 k8 k9 k10 kl
 have hbw1:=HB0.out.trans (hb1.mono HB0.out.size)
 have HT1:=Lib.hid (HTX.out w1 cells' hat hbw1)
 have HB1:=Lib.hid hbw1
 have HQ1:=Lib.hid (HQ.out.below hb1 HQ.out.lt)
 clear hat hb1 hbw1 HCP HTX HQ HB0
 go_wp2_with fail
 refine HT1.out.mono ?_
 rintro e w2 ⟨rfl,hb2⟩
 have HB2:=Lib.hid (HB1.out.trans (hb2.mono HB1.out.size))
 have HQ2:=Lib.hid (HQ1.out.below hb2 HQ1.out.lt)
 clear hb2 HT1 HB1 HQ1
 have HA2:=Lib.hid (HAW.out w2 HB2.out)
 have HP2:=Lib.hid (HPA.out w2 HB2.out)
 clear HPA
 rcases hTe:TX with _ | ⟨t0,tr⟩
 ·clear HP2 HBK HMY HLG
  go_wp2_with fail
  refine HA2.out.mono ?_
  rintro e w3 ⟨rfl,hb3⟩
  have HB3:=Lib.hid (HB2.out.trans (hb3.mono HB2.out.size))
  clear hb3
  go_wp2_with fail
  go_ret
  exact⟨by first | rfl | simp,HB3.out⟩
 ·rw[<-hTe]
  have hne:TX≠[]:=by rw[hTe];simp
  have hnb:((⟨TX.toArray⟩:ByteArray).toList == [])=false:=by rw[ByteArray.toList_eq,hTe];simp
  clear hTe
  obtain⟨tb,htb⟩:∃ tb,(⟨TX.toArray⟩:ByteArray)=tb:=⟨_,rfl⟩
  have htz:tb.size=TX.length:=by rw[<-htb];simp [ByteArray.size]
  rw[htb] at hnb HP2 HTN ⊢
  have HTZ:=Lib.hid htz
  have HNE:=Lib.hid hne
  clear hne hlen htz htb
  by_cases hlg:16384<TX.length
  ·obtain⟨p,hp⟩:=HLG.out hlg
   rw[hp] at HP2
   have hd1:decide (16384<(tb.size:Int))=true:=by have:=HTZ.out;simp;omega
   have hd2:decide (16384<tb.size)=true:=by have:=HTZ.out;simp;omega
   have hd3:16384<tb.size:=by have:=HTZ.out;omega
   clear hp HBK HMY HLG HA2
   go_wp2_with fail
   refine HP2.out.mono ?_
   rintro e w3 ⟨rfl,hb3⟩
   have HB3:=Lib.hid (balloc (HB2.out.trans (hb3.mono HB2.out.size)) (.cells #[.int .i64 0,.string ⟨#[]⟩,.slice none 0 0,.string ⟨#[]⟩,.slice none 0 0,.slice none 0 0,.slice none 0 0,.string ⟨#[]⟩,.int .i64 0,.int .i64 0,.slice none 0 0] 34))
   have HA3:=Lib.hid (HAW.out _ HB3.out)
   clear hb3 HP2
   go_wp2_with fail
   refine HA3.out.mono ?_
   rintro e w4 ⟨rfl,hb4⟩
   have HB4:=Lib.hid (HB3.out.trans (hb4.mono HB3.out.size))
   clear hb4
   go_wp2_with fail
   go_ret
   exact⟨by first | rfl | simp,HB4.out⟩
  ·have hd1:decide (16384<(tb.size:Int))=false:=by have:=HTZ.out;simp;omega
   have hd2:decide (16384<tb.size)=false:=by have:=HTZ.out;simp;omega
   have hd3:¬ 16384<tb.size:=by have:=HTZ.out;omega
   by_cases hmy:ck=4/\256<n4
   ·obtain⟨p,hp⟩:=HMY.out HNE.out (by omega) hmy.1 hmy.2
    rw[hp] at HP2
    obtain⟨rfl,hmy⟩:=hmy
    have hd4:decide (256<(n4:Int))=true:=by simp;omega
    clear hp HBK HMY HLG HA2
    go_wp2_with fail
    refine HP2.out.mono ?_
    rintro e w3 ⟨rfl,hb3⟩
    have HB3:=Lib.hid (balloc (HB2.out.trans (hb3.mono HB2.out.size)) (.cells #[.int .i64 0,.string ⟨#[]⟩,.slice none 0 0,.string ⟨#[]⟩,.slice none 0 0,.slice none 0 0,.slice none 0 0,.string ⟨#[]⟩,.int .i64 0,.int .i64 0,.slice none 0 0] 34))
    have hq3:=(HQ2.out.below hb3 HQ2.out.lt).alloc (.cells #[.int .i64 0,.string ⟨#[]⟩,.slice none 0 0,.string ⟨#[]⟩,.slice none 0 0,.slice none 0 0,.slice none 0 0,.string ⟨#[]⟩,.int .i64 0,.int .i64 0,.slice none 0 0] 34)
    have k0:=hq3.cell 0
    have k6:=hq3.cell 6
    have kl:=hq3.lt
    simp only[List.getElem?_toArray,List.getElem?_cons_zero,List.getElem?_cons_succ] at k0 k6
    have HA3:=Lib.hid (HAW.out _ HB3.out)
    clear hb3 HP2 hq3
    go_wp2_with fail
    refine HA3.out.mono ?_
    rintro e w4 ⟨rfl,hb4⟩
    have HB4:=Lib.hid (HB3.out.trans (hb4.mono HB3.out.size))
    clear hb4
    go_wp2_with fail
    go_ret
    exact⟨by first | rfl | simp,HB4.out⟩
   ·obtain⟨r,hr⟩:=HBK.out HNE.out (by omega) (fun q=>by
     have q1:=q
     omega)
    have hsm:=HSM.out _ _ hr
    rw[hr] at HP2
    clear hr HBK HMY HLG HA2
    go_wp2_with fail
    refine HP2.out.mono ?_
    rintro e w3 ⟨cells2,rfl,hown,hb3⟩
    have hat:=hown.at hsm
    obtain⟨y1,y2,y3,p1,p2,p3,p4,p5,m1,e1,m2,e2,m3,e3,m4,e4,m5,e5,rfl⟩:=hat.form
    rw[HNK.out] at hat ⊢
    generalize (normC c).id=di at *
    generalize (normC c).n=dn at *
    have hbw3:=balloc (HB2.out.trans (hb3.mono HB2.out.size)) (.cells #[.int .i64 ck,.string y1,.slice p1 m1 e1,.string y2,.slice p2 m2 e2,.slice p3 m3 e3,.slice p4 m4 e4,.string y3,.int .i64 di,.int .i64 dn,.slice p5 m5 e5] 34)
    have hq3:=(HQ2.out.below hb3 HQ2.out.lt).alloc (.cells #[.int .i64 ck,.string y1,.slice p1 m1 e1,.string y2,.slice p2 m2 e2,.slice p3 m3 e3,.slice p4 m4 e4,.string y3,.int .i64 di,.int .i64 dn,.slice p5 m5 e5] 34)
    have hd33:=Blk.new w3 34 #[.int .i64 ck,.string y1,.slice p1 m1 e1,.string y2,.slice p2 m2 e2,.slice p3 m3 e3,.slice p4 m4 e4,.string y3,.int .i64 di,.int .i64 dn,.slice p5 m5 e5]
    have hat3:=hat.keep (balloc (Below.refl w3.heap.size w3) (.cells #[.int .i64 ck,.string y1,.slice p1 m1 e1,.string y2,.slice p2 m2 e2,.slice p3 m3 e3,.slice p4 m4 e4,.string y3,.int .i64 di,.int .i64 dn,.slice p5 m5 e5] 34))
    obtain⟨W3,hW3⟩:∃ W3,w3.alloc (.cells #[.int .i64 ck,.string y1,.slice p1 m1 e1,.string y2,.slice p2 m2 e2,.slice p3 m3 e3,.slice p4 m4 e4,.string y3,.int .i64 di,.int .i64 dn,.slice p5 m5 e5] 34)=W3:=⟨_,rfl⟩
    rw[hW3] at hbw3 hq3 hd33 hat3
    have HW3:=Lib.hid hW3
    have HB3:=Lib.hid hbw3
    have HQ3:=Lib.hid hq3
    have HD3:=Lib.hid hd33
    have HAT3:=Lib.hid hat3
    have HA3:=Lib.hid (HAW.out _ hbw3)
    have k0:=hq3.cell 0
    have k6:=hq3.cell 6
    have kl:=hq3.lt
    simp only[List.getElem?_toArray,List.getElem?_cons_zero,List.getElem?_cons_succ] at k0 k6
    have hd4:ck=4->decide (256<(n4:Int))=false:=fun q=>by simp;omega
    clear hat hown hb3 hbw3 hq3 hd33 hat3 hW3 HP2 hsm HQ2 HB2
    go_upto_region 7 with fail
    rw[HW3.out]
    go_cut [35] from 27 (fun s35 wx=>s35=.bool false/\wx=W3)
    case first =>
     by_cases q4:ck=4
     ·have hd5:=hd4 q4
      subst q4
      go_wp2_with fail
      go_meet
      exact⟨by first | rfl | simp,rfl⟩
     ·have hd5:(ck == 4)=false:=by simpa using q4
      clear hd4
      go_wp2_with fail
      go_meet
      exact⟨by first | rfl | simp,rfl⟩
    case rest =>
     obtain⟨rfl,rfl⟩:=hcut
     clear k0 k6 kl hd4
     go_wp2_with fail
     refine HA3.out.mono ?_
     rintro e w4 ⟨rfl,hb4⟩
     have hq4:=HQ3.out.below hb4 HQ3.out.lt
     have hd4:=HD3.out.below hb4 HD3.out.lt
     have hat4:=HAT3.out.keep hb4
     have HB4:=Lib.hid (HB3.out.trans (hb4.mono HB3.out.size))
     have k0:=hq4.cell 0
     have kl:=hq4.lt
     have r0:=hd4.cell 0
     have r1:=hd4.cell 1
     have r2:=hd4.cell 2
     have r3:=hd4.cell 3
     have r4:=hd4.cell 4
     have r5:=hd4.cell 5
     have r6:=hd4.cell 6
     have r7:=hd4.cell 7
     have r8:=hd4.cell 8
     have r9:=hd4.cell 9
     have r10:=hd4.cell 10
     have rl:=hd4.lt
     simp only[List.getElem?_toArray,List.getElem?_cons_zero,List.getElem?_cons_succ] at k0 r0 r1 r2 r3 r4 r5 r6 r7 r8 r9 r10
     have HT4:=Lib.hid (HTN.out _ _ hat4 HB4.out)
     clear hb4 hq4 hd4 hat4 HA3
     go_wp2_with fail
     refine HT4.out.mono ?_
     rintro e w5 ⟨rfl,hb5⟩
     have HB5:=Lib.hid (HB4.out.trans (hb5.mono HB4.out.size))
     clear hb5
     go_wp2_with fail
     go_ret
     exact⟨by first | rfl | simp,HB5.out⟩
theorem cmdback_card (cells:Array Value) (c:Cmd) (w:World) {N:Nat} (h:BigC w cells c N) (hN:N<=1048576) (hg:GlobW w) :
 Calls Tryz.prog 6 #[.agg cells] w fun e w'=>e=.returned (.bool true)/\Below w.heap.size w w' :=
 cmdback_law w cells c h.at_ (h.txt hN) h.ncols h.natoms h.nb h.nrow hg
end Go.Proofs.YtamjadghncnbcaaGreatDoor
