/- osierref25.Text at any command, walked (printed by mkcrt.py). -/
import Derived.Test.YtamjadghncnbcaaGreatDoorTpT
import Derived.Test.YtamjadghncnbcaaGreatDoorDwT
import Derived.Test.YtamjadghncnbcaaGreatDoorKfT
import Derived.Test.YtamjadghncnbcaaGreatDoorQvT
import Derived.Test.YtamjadghncnbcaaGreatDoorBeT
import Derived.Test.YtamjadghncnbcaaGreatDoorLhT
import Derived.Test.YtamjadghncnbcaaGreatDoorLeT
import Derived.Deep.RegionHeld3
import Derived.Deep.Cut
import Derived.Deep.CutRange
import Derived.BigQuiet
namespace Go.Proofs.YtamjadghncnbcaaGreatDoor
open Go.RowKit
set_option linter.unusedVariables false
theorem words_cell {j:Nat} (h:j<18):(wordsC.map fun s=>Value.string ⟨s.toArray⟩).toArray[j]? = some (.string ⟨(wordN ((j:Int)+1)).toArray⟩):=by
 have e:wordN ((j:Int)+1)=wordsC.getD j []:=by unfold wordN;congr 1;omega
 have hl:j<wordsC.length:=h
 rw[e,List.getElem?_toArray,List.getElem?_map,List.getElem?_eq_getElem hl,List.getD_eq_getElem?_getD,List.getElem?_eq_getElem hl]
 rfl
theorem forms_cell {j:Nat} (h:j<18):(formsC.map fun s=>Value.string ⟨s.toArray⟩).toArray[j]? = some (.string ⟨(formN ((j:Int)+1)).toArray⟩):=by
 have e:formN ((j:Int)+1)=formsC.getD j []:=by unfold formN;congr 1;omega
 have hl:j<formsC.length:=h
 rw[e,List.getElem?_toArray,List.getElem?_map,List.getElem?_eq_getElem hl,List.getD_eq_getElem?_getD,List.getElem?_eq_getElem hl]
 rfl
theorem formN_mem (k:Int):∀ f∈formN k,f=100∨f=113∨f=98∨f=110∨f=114∨f=105∨f=107:=by
 unfold formN
 generalize (k - 1).toNat=n
 rcases Nat.lt_or_ge n 18 with h | h
 ·have hall:∀ m<18,∀ f∈formsC.getD m [],f=100∨f=113∨f=98∨f=110∨f=114∨f=105∨f=107:=by decide
  exact hall n h
 ·rw[List.getD_eq_getElem?_getD,List.getElem?_eq_none (by show 18<=n;exact h)]
  intro f hf
  cases hf
theorem bytes_of2 {R:ByteArray} {l:List UInt8} (h:R.data.toList=l):R=⟨l.toArray⟩:=ByteArray.ext (Array.toList_inj.1 (by simpa using h))
set_option maxHeartbeats 16000000 in
set_option maxRecDepth 100000 in
theorem refTextC_any (w:World) (cells:Array Value) (c:Cmd) (h:CmdAt w cells c) (hB:TxtB c) :
 Calls Tryz.prog 20 #[.agg cells] w fun e w'=>e=.returned (.string ⟨(textC c).toArray⟩)/\Below w.heap.size w w':=by
 obtain⟨cv,hv,av,bv,rv,rfl,a1,a2,a3,a4,a5⟩:=h
 have hl8:∀ n:Nat,n<=140737488351232->n<=140737488355328:=fun n q=>by omega
 have HR:=Lib.hid (fun W (hW:Below w.heap.size w W)=>refShow_any8 W ⟨c.rel.name.toArray⟩ cv c.rel.cols (a1.keep hW) (hl8 _ hB.rname) (fun x hx=>hl8 _ (hB.cols x hx)))
 have HQ:=Lib.hid (fun W (hW:Below w.heap.size w W)=>refQShow_any W ⟨c.q.name.toArray⟩ hv av c.q.head c.q.atoms (a2.keep hW) (a3.keep hW) (hl8 _ hB.qname) (fun x hx=>hl8 _ (hB.heads x hx)) (fun x hx=>⟨hl8 _ (hB.atoms x hx).1,fun t ht=>hl8 _ ((hB.atoms x hx).2 t ht)⟩) hB.range)
 have HC:=Lib.hid (fun W (hW:Below w.heap.size w W)=>refChgShow_any W bv c.b (a4.keep hW) hB.batch (fun x hx=>hl8 _ (hB.brel x hx)) hB.nb)
 have HN:=Lib.hid (fun W=>refName_any ⟨c.nm.toArray⟩ W (by have:=hB.nm;show c.nm.length<=_;omega))
 have HI:=Lib.hid (fun W=>number_any c.id W hB.id.1 hB.id.2)
 have HJ:=Lib.hid (fun W=>number_any c.n W hB.n.1 hB.n.2)
 have HV:=Lib.hid (fun W (hW:Below w.heap.size w W)=>refRowShow_any W rv c.row (a5.keep hW) hB.row)
 have hpl:=fun f=>part_len hB f
 obtain⟨o1,l1,rfl,_,_⟩:=a1.form
 obtain⟨o2,l2,rfl,_,_⟩:=a2.form
 obtain⟨o3,l3,rfl,_,_⟩:=a3.form
 obtain⟨o4,l4,rfl,_,_⟩:=a4.form
 obtain⟨o5,l5,rfl,_,_⟩:=a5.form
 have TO:=Lib.hid (textC_out (c:=c))
 have TR:=Lib.hid (textG_eq (c:=c))
 obtain⟨PG,hPG⟩:∃ PG:UInt8->List UInt8,(fun f=>partG f c)=PG:=⟨_,rfl⟩
 have hpg:∀ f,partG f c=PG f:=fun f=>by rw[<-hPG]
 have P0:=Lib.hid (show showC c.rel.name c.rel.cols=PG 100 by rw[<-hpg];simp [partG])
 have P1:=Lib.hid (show showQ c.q=PG 113 by rw[<-hpg];simp [partG])
 have P2:=Lib.hid (show showBt c.b=PG 98 by rw[<-hpg];simp [partG])
 have P3:=Lib.hid (show (if isNameB c.nm=true then c.nm else [])=PG 110 by rw[<-hpg];simp [partG])
 have P4:=Lib.hid (show showRow c.row=PG 114 by rw[<-hpg];simp [partG])
 have P5:=Lib.hid (show Lib.itoa c.id=PG 105 by rw[<-hpg];simp [partG])
 have P6:=Lib.hid (show Lib.itoa c.n=PG 107 by rw[<-hpg];simp [partG])
 obtain⟨TG,hTG⟩:∃ TG:List UInt8->List UInt8->List UInt8,textG c=TG:=⟨_,rfl⟩
 have ht0:∀ s,TG [] s=s:=fun s=>by rw[<-hTG];rfl
 have ht1:∀ f r s,TG (f::r) s=if f=98/\c.b=[] then s else if PG f=[] then [] else TG r (s++(gapG f++PG f)):=fun f r s=>by rw[<-hTG,<-hPG];rfl
 have HT0:=Lib.hid ht0
 have HT1:=Lib.hid ht1
 have HPL:=Lib.hid (fun f=>(hpg f) ▸ hpl f)
 rw[hTG] at TR
 obtain⟨TX,hTX⟩:∃ TX,textC c=TX:=⟨_,rfl⟩
 rw[hTX] at TO TR ⊢
 clear a1 a2 a3 a4 a5 hB hl8 hpl hPG hpg hTG ht0 ht1 hTX
 obtain⟨ck,⟨rn,cols⟩,⟨qn,hd,al⟩,bb,nm,ci,cn,row⟩:=c
 simp only at *
 generalize (⟨rn.toArray⟩:ByteArray)=x1 at *
 generalize (⟨qn.toArray⟩:ByteArray)=x2 at *
 generalize hx3:(⟨nm.toArray⟩:ByteArray)=x3 at *
 have HX3:=Lib.hid hx3
 clear hx3
 generalize (List.map Col.cells cols).length=n1 at *
 generalize hd.length=n2 at *
 generalize (List.map Vl.cells row).length=n5 at *
 generalize al.length=n3 at *
 generalize hm4:bb.length=n4 at *
 have HM4:=Lib.hid hm4
 clear hm4
 by_cases hk:1<=ck/\ck<=18
 case neg =>
  have ht:=TO.out hk
  subst ht
  clear HR HQ HC HN HI HJ HV P0 P1 P2 P3 P4 P5 P6 TO TR HT0 HT1 HPL
  have hb0:Below w.heap.size w (w.alloc (.cells #[.int .i64 ck,.string x1,.slice o1 n1 l1,.string x2,.slice o2 n2 l2,.slice o3 n3 l3,.slice o4 n4 l4,.string x3,.int .i64 ci,.int .i64 cn,.slice o5 n5 l5] 39)):=balloc (Below.refl _ _) _
  have hbx:=Blk.new w 39 #[.int .i64 ck,.string x1,.slice o1 n1 l1,.string x2,.slice o2 n2 l2,.slice o3 n3 l3,.slice o4 n4 l4,.string x3,.int .i64 ci,.int .i64 cn,.slice o5 n5 l5]
  obtain⟨W0,hW0⟩:∃ W0,w.alloc (.cells #[.int .i64 ck,.string x1,.slice o1 n1 l1,.string x2,.slice o2 n2 l2,.slice o3 n3 l3,.slice o4 n4 l4,.string x3,.int .i64 ci,.int .i64 cn,.slice o5 n5 l5] 39)=W0:=⟨_,rfl⟩
  rw[hW0] at hb0 hbx
  have HB0:=Lib.hid hb0
  have HBX:=Lib.hid hbx
  have HW0:=Lib.hid hW0
  clear hb0 hbx hW0
  go_enter Tryz.func20,Tryz.ntmps20
  go_upto_region 1 with fail
  rw[HW0.out]
  go_wp2_with fail
  refine (refWords_any W0).mono ?_
  rintro e w1 ⟨rfl,hwd,hfm,hb1⟩
  have hb:=HB0.out.trans (hb1.mono HB0.out.size)
  have x0:=(HBX.out.below hb1 HBX.out.lt).cell 0
  have xl:=(HBX.out.below hb1 HBX.out.lt).lt
  simp only[List.getElem?_toArray,List.getElem?_cons_zero] at x0
  have HB:=Lib.hid hb
  clear hwd hfm hb1 hb
  by_cases hlo:ck<1
  ·have hd2:decide (ck<1)=true:=by simp;omega
   go_wp2_with fail
   go_ret
   exact⟨rfl,HB.out⟩
  ·have hd2:decide (ck<1)=false:=by simp;omega
   have hd3:decide (18<ck)=true:=by simp;omega
   go_wp2_with fail
   go_ret
   exact⟨rfl,HB.out⟩
 case pos =>
  obtain⟨j,rfl⟩:∃ j:Nat,ck=(j:Int)+1:=⟨(ck - 1).toNat,by omega⟩
  have hj:j<18:=by omega
  have HT:=Lib.hid (TR.out hk.1 hk.2)
  clear TO TR
  have hb0:Below w.heap.size w (w.alloc (.cells #[.int .i64 ((j:Int)+1),.string x1,.slice o1 n1 l1,.string x2,.slice o2 n2 l2,.slice o3 n3 l3,.slice o4 n4 l4,.string x3,.int .i64 ci,.int .i64 cn,.slice o5 n5 l5] 39)):=balloc (Below.refl _ _) _
  have hbx:=Blk.new w 39 #[.int .i64 ((j:Int)+1),.string x1,.slice o1 n1 l1,.string x2,.slice o2 n2 l2,.slice o3 n3 l3,.slice o4 n4 l4,.string x3,.int .i64 ci,.int .i64 cn,.slice o5 n5 l5]
  obtain⟨W0,hW0⟩:∃ W0,w.alloc (.cells #[.int .i64 ((j:Int)+1),.string x1,.slice o1 n1 l1,.string x2,.slice o2 n2 l2,.slice o3 n3 l3,.slice o4 n4 l4,.string x3,.int .i64 ci,.int .i64 cn,.slice o5 n5 l5] 39)=W0:=⟨_,rfl⟩
  rw[hW0] at hb0 hbx
  have HB0:=Lib.hid hb0
  have HBX:=Lib.hid hbx
  have HW0:=Lib.hid hW0
  clear hb0 hbx hW0
  go_enter Tryz.func20,Tryz.ntmps20
  go_upto_region 1 with fail
  rw[HW0.out]
  go_wp2_with fail
  refine (refWords_any W0).mono ?_
  rintro e w1 ⟨rfl,hwd,hfm,hb1⟩
  have hd2:decide ((j:Int)+1<1)=false:=by simp;omega
  have hd3:decide (18<(j:Int)+1)=false:=by simp;omega
  have hd4:decide ((j:Int)<0)=false:=by simp
  have hd5:decide (18<=(j:Int))=false:=by simp;omega
  have cw:=hwd.cell j
  have cf:=hfm.cell j
  rw[words_cell hj] at cw
  rw[forms_cell hj] at cf
  have lw:=hwd.lt
  have lf:=hfm.lt
  have hwl:=wordN_len ((j:Int)+1)
  have hfl:=formN_len ((j:Int)+1)
  have hfe:=formN_mem ((j:Int)+1)
  generalize wordN ((j:Int)+1)=WD at *
  generalize formN ((j:Int)+1)=FM at *
  generalize hfb:(⟨FM.toArray⟩:ByteArray)=fb at *
  have hfs:fb.size=FM.length:=by rw[<-hfb];simp [ByteArray.size]
  have HFE:=Lib.hid hfe
  have HFB:=Lib.hid hfb
  have HFS:=Lib.hid hfs
  have HB1:=Lib.hid (HB0.out.trans (hb1.mono HB0.out.size))
  have hx:=HBX.out.below hb1 HBX.out.lt
  have x0:=hx.cell 0
  have xl:=hx.lt
  simp only[List.getElem?_toArray,List.getElem?_cons_zero] at x0
  have HX:=Lib.hid hx
  clear hfe hfb hx hb1 hwd hfm hfs HB0 HBX hk
  go_wp2_with fail
  go_loopw [5,7] (fun s5 s7 wr=>∃ (i:Nat) (S:List UInt8),i<=FM.length/\s7=.int .i64 i/\s5=.string ⟨S.toArray⟩/\Hid (TG (FM.drop i) S=TX)/\Hid (S.length<=1000+i * 140737488355400)/\Hid (Below w1.heap.size w1 wr)) (fun _ s7 _=>FM.length - (intOf s7).toNat)
  case atStart=>exact⟨0,WD,Nat.zero_le _,rfl,rfl,Lib.hid (by rw[List.drop_zero];exact HT.out),Lib.hid (by omega),Lib.hid (Below.refl _ _)⟩
  case round =>
   obtain⟨i,S,hi,rfl,rfl,HTG,HSL,HBW⟩:=hrel
   obtain⟨wx,rfl⟩:∃ wx:World,wx=wr:=⟨_,rfl⟩
   by_cases hil:i<FM.length
   ·obtain⟨f,hf⟩:∃ f,FM[i]? = some f:=⟨FM[i],List.getElem?_eq_getElem hil⟩
    have hdr:FM.drop i=f::FM.drop (i+1):=by
     rw[List.drop_eq_getElem_cons hil]
     rw[List.getElem?_eq_getElem hil] at hf
     rw[Option.some.inj hf]
    have htg:=HTG.out
    rw[hdr,HT1.out] at htg
    have hfs2:fb.size=FM.length:=HFS.out
    have hlt:decide ((i:Int)<(fb.size:Int))=true:=by rw[hfs2];simp;omega
    have hlt2:i<fb.size:=by rw[hfs2];exact hil
    have hby:fb.data[i]? = some f:=by
     have:=HFB.out
     rw[<-this]
     simpa using hf
    have hbi:∀ h:i<fb.size,fb[i]'h=f:=fun h=>Option.some.inj ((Array.getElem?_eq_getElem (xs:=fb.data) h).symm.trans hby)
    have hmem:=HFE.out f (List.mem_of_getElem? hf)
    have HMEM:=Lib.hid hmem
    clear hmem
    have HTG2:=Lib.hid htg
    have HX2:=Lib.hid (HX.out.below HBW.out HX.out.lt)
    clear htg hdr
    go_upto_region 10 with fail
    go_cut [44] from 42 to 93 (fun s44 wy=>s44=.int .u8 (f.toNat:Int)/\wy=wx)
    case first =>
     go_wp2_with fail
     go_meet
     exact⟨rfl,rfl⟩
    case rest =>
     obtain⟨rfl,rfl⟩:=hcut
     rename_i KK hKK
     refine hKK _ _ ?_
     clear hKK KK
     go_cut [8,9] from 45 to 93 (fun s8 s9 wy=>s8=.string ⟨(PG f).toArray⟩/\s9=.string ⟨(gapG f).toArray⟩/\¬ (f=98/\bb=[])/\Hid (Below wc.heap.size wc wy))
     case first =>
      have y1:=HX2.out.cell 1
      have y2:=HX2.out.cell 2
      have y3:=HX2.out.cell 3
      have y4:=HX2.out.cell 4
      have y5:=HX2.out.cell 5
      have y6:=HX2.out.cell 6
      have y7:=HX2.out.cell 7
      have y8:=HX2.out.cell 8
      have y9:=HX2.out.cell 9
      have y10:=HX2.out.cell 10
      have yl:=HX2.out.lt
      simp only[List.getElem?_toArray,List.getElem?_cons_zero,List.getElem?_cons_succ] at y1 y2 y3 y4 y5 y6 y7 y8 y9 y10
      have hbw:=HB1.out.trans (HBW.out.mono HB1.out.size)
      clear hbi hby hf hlt hlt2 hfs2
      rcases HMEM.out with rfl | rfl | rfl | rfl | rfl | rfl | rfl
      ·rw[show (((100:UInt8).toNat:Nat):Int)=100 from rfl]
       go_wp2_with (go_at_call 68;refine (HR.out _ hbw).mono ?_;rintro e w' ⟨rfl,hb'⟩)
       go_meet
       exact⟨by rw[P0.out],rfl,fun q=>absurd q.1 (by decide),Lib.hid hb'⟩
      ·rw[show (((113:UInt8).toNat:Nat):Int)=113 from rfl]
       go_wp2_with (go_at_call 69;refine (HQ.out _ hbw).mono ?_;rintro e w' ⟨rfl,hb'⟩)
       go_meet
       exact⟨by rw[P1.out],rfl,fun q=>absurd q.1 (by decide),Lib.hid hb'⟩
      ·rw[show (((98:UInt8).toNat:Nat):Int)=98 from rfl]
       by_cases hbe:bb=[]
       ·have hn4:n4=0:=by rw[<-HM4.out,hbe];rfl
        subst hn4
        have htx:=HTG2.out
        rw[if_pos ⟨rfl,hbe⟩] at htx
        have HTX:=Lib.hid htx
        clear htx
        go_wp2_with (go_at_call 70;refine (HC.out _ hbw).mono ?_;rintro e w' ⟨rfl,hb'⟩;have y6':=(hb'.cell (p:=⟨w.heap.size,6,none⟩) yl).trans y6;have hbz:=hbw.trans (hb'.mono hbw.size);have HBZ:=Lib.hid hbz;clear hbz hb')
        go_ret
        exact⟨by rw[HTX.out];first | rfl | simp,HBZ.out⟩
       ·have hn4:((n4:Int) == 0)=false:=by
         have:=HM4.out
         have h0:0<bb.length:=List.length_pos_iff.2 hbe
         simp;omega
        have hn5:(n4 == 0)=false:=by
         have:=HM4.out
         have h0:0<bb.length:=List.length_pos_iff.2 hbe
         simp;omega
        go_wp2_with (go_at_call 70;refine (HC.out _ hbw).mono ?_;rintro e w' ⟨rfl,hb'⟩;have y6':=(hb'.cell (p:=⟨w.heap.size,6,none⟩) yl).trans y6)
        go_meet
        exact⟨by rw[P2.out],rfl,fun q=>hbe q.2,Lib.hid hb'⟩
      ·rw[show (((110:UInt8).toNat:Nat):Int)=110 from rfl]
       have hp3:=P3.out
       rcases hnb:isNameB nm with _ | _
       all_goals
        rw[hnb] at hp3
        have HP3:=Lib.hid hp3
        have hn2:=HN.out
        rw[hnb] at hn2
        have HN2:=Lib.hid hn2
        clear hp3 hnb hn2
        go_wp2_with (go_at_call 71;refine (HN2.out _).mono ?_;rintro e w' ⟨rfl,rfl⟩)
        go_meet
        exact⟨by rw[<-HP3.out];first | rfl | exact congrArg Value.string HX3.out.symm,rfl,fun q=>absurd q.1 (by decide),Lib.hid (Below.refl _ _)⟩
      ·rw[show (((114:UInt8).toNat:Nat):Int)=114 from rfl]
       go_wp2_with (go_at_call 72;refine (HV.out _ hbw).mono ?_;rintro e w' ⟨rfl,hb'⟩)
       go_meet
       exact⟨by rw[P4.out],rfl,fun q=>absurd q.1 (by decide),Lib.hid hb'⟩
      ·rw[show (((105:UInt8).toNat:Nat):Int)=105 from rfl]
       go_wp2_with (go_at_call 73;refine (HI.out _).mono ?_;rintro e w' ⟨rfl,hb'⟩)
       go_meet
       exact⟨by rw[P5.out],rfl,fun q=>absurd q.1 (by decide),Lib.hid hb'⟩
      ·rw[show (((107:UInt8).toNat:Nat):Int)=107 from rfl]
       go_wp2_with (go_at_call 73;refine (HJ.out _).mono ?_;rintro e w' ⟨rfl,hb'⟩)
       go_meet
       exact⟨by rw[P6.out],rfl,fun q=>absurd q.1 (by decide),Lib.hid hb'⟩
     case rest =>
      obtain⟨rfl,rfl,hnb,HBY⟩:=hcut
      have htx:=HTG2.out
      rw[if_neg hnb] at htx
      have hpl:=HPL.out f
      clear HR HQ HC HN HI HJ HV P0 P1 P2 P3 P4 P5 P6 HX2 HX hbi hby hf hlt hlt2 hfs2 HMEM hnb HTG2 HTG
      have HBZ:=Lib.hid (HBW.out.trans (HBY.out.mono HBW.out.size))
      cases hP:PG f with
      | nil =>
        rw[hP,if_pos rfl] at htx
        have HTX:=Lib.hid htx
        clear htx hP hpl
        go_wp2_with fail
        go_ret
        exact⟨by rw[<-HTX.out];first | rfl | simp,HB1.out.trans (HBZ.out.mono HB1.out.size)⟩
      | cons p0 pr =>
        rw[hP,if_neg (by simp)] at htx
        rw[hP] at hpl
        have HTX:=Lib.hid htx
        have hgl:(gapG f).length<=1:=by unfold gapG;split<;>simp
        have hne:((⟨(p0::pr).toArray⟩:ByteArray).toList == [])=false:=by rw[ByteArray.toList_eq];simp
        have hsl:=HSL.out
        generalize hS:(⟨S.toArray⟩:ByteArray)=sb at *
        generalize hG:(⟨(gapG f).toArray⟩:ByteArray)=gb at *
        generalize hPB:(⟨(p0::pr).toArray⟩:ByteArray)=pb at *
        have s1:sb.size<=1000+i * 140737488355400:=by rw[<-hS];simpa [ByteArray.size] using hsl
        have s2:gb.size<=1:=by rw[<-hG];simpa [ByteArray.size] using hgl
        have s3:pb.size<=140737488355328:=by rw[<-hPB];simpa [ByteArray.size] using hpl
        have v1:¬ 9223372036854775807<gb.size+pb.size:=by omega
        have v2:¬ 9223372036854775807<sb.size+(gb.size+pb.size):=by omega
        have HSB:=Lib.hid (And.intro hS (And.intro hG hPB))
        have HPP:=Lib.hid hP
        have HLL:=Lib.hid (And.intro hgl hpl)
        clear htx hP hpl hsl hgl hS hG hPB s1 s2 s3
        go_wp2_with fail
        go_roundw
        case rel =>
         refine⟨i+1,S++(gapG f++(p0::pr)),by omega,by go_num,congrArg Value.string (bytes_of2 ?_),HTX,Lib.hid ?_,HBZ⟩
         ·rw[<-HSB.out.1,<-HSB.out.2.1,<-HSB.out.2.2]
          simp
         ·have h1:=HSL.out
          have h2:=HLL.out
          simp only[List.length_append] at *
          omega
        case measure=>simp [intOf];omega
   ·have he:i=FM.length:=by omega
    have htx:=HTG.out
    rw[he,List.drop_length,HT0.out] at htx
    have hfs2:fb.size=FM.length:=HFS.out
    have hlt:decide ((i:Int)<(fb.size:Int))=false:=by rw[hfs2];simp;omega
    have hlt2:¬ i<fb.size:=by rw[hfs2];exact hil
    have HTX:=Lib.hid htx
    have HBZ:=Lib.hid (HB1.out.trans (HBW.out.mono HB1.out.size))
    clear htx he hfs2
    go_wp2_with fail
    go_ret
    exact⟨by rw[HTX.out];first | rfl | simp,HBZ.out⟩
end Go.Proofs.YtamjadghncnbcaaGreatDoor
