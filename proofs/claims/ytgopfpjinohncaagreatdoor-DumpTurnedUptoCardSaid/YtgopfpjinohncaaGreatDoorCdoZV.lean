/- command.Parse at the lines of two kinds, walked (printed by mkcdo.py). -/
import Derived.Test.YtgopfpjinohncaaGreatDoorDwV
namespace Go.Proofs.YtgopfpjinohncaaGreatDoor
open Go.RowKit
set_option linter.unusedVariables false
set_option maxHeartbeats 8000000 in
set_option maxRecDepth 100000 in
theorem cmd_one {K:Int} (s:ByteArray) (w:World) (t:Tok) (c:List Tok) (hgw:∀ W,Below w.heap.size w W->WordsAt W)
 (hop:∀ W,Below w.heap.size w W->Calls Tryz.prog 54 #[.string s] W fun e w'=>∃ r vt,e=.returned (.pointer (some ⟨r,0,none⟩))/\W.heap.size<=r/\Rs w' r (t::c) vt/\Below W.heap.size W w')
 (hk:kindC t=K) (h0p:0<=t.p) (h1p:t.p+(⟨t.x.toArray⟩:ByteArray).size<=281474976710656)
 (K14:K=1∨K=4)
 (fr:Nat) (hfr:(fr:Int)=t.p+(⟨t.x.toArray⟩:ByteArray).size) (hfs:fr<=s.size) (hss:s.size<=281474976710656)
 (pS0:PR Rln) (plS:PlaceOk pS0) (ppS:∀ W,Below w.heap.size w W->Calls Tryz.prog 59 #[.string (s.extract fr s.size)] W (SPost W pS0))
 (pB0:PR (List Chg)) (plB:PlaceOk pB0) (ppB:∀ W,Below w.heap.size w W->Calls Tryz.prog 63 #[.string (s.extract fr s.size)] W (BPost W pB0)) :
 Calls Tryz.prog 22 #[.string s] w (CmdPost w (if K=1 then innerP (fr:Int) ⟨[],[]⟩ pS0 fun x => { cmd0 with kind:=1,rel:=x }
 else innerP (fr:Int) [] pB0 fun x => { cmd0 with kind:=4,b:=x })):=by
 have hmf:∀ (fn:Fn) (first cap:Array Value) (w:World),(Instr.makeFunc fn first cap).run Tryz.prog w=.ok (.func fn first cap) w:=fun _ _ _ _=>rfl
 have hps:=PCm.start w
 have ho:=hop _ hps.b
 have HPS:=Lib.hid hps
 have HO:=Lib.hid ho
 have HGW:=Lib.hid hgw
 have HKD:=Lib.hid (fun W hW=>kindOf_any t W hW)
 rw[hk] at HKD
 have hk1:t.k=1:=kindC_one (by rw[hk];omega)
 have hK0b:(K == 0)=false:=by rcases K14 with rfl | rfl<;>rfl
 obtain⟨RES,hRES⟩:∃ RES,(if K=1 then innerP (fr:Int) ⟨[],[]⟩ pS0 fun x => { cmd0 with kind:=1,rel:=x }
  else innerP (fr:Int) [] pB0 fun x => { cmd0 with kind:=4,b:=x })=RES:=⟨_,rfl⟩
 rw[hRES]
 have HRES:=Lib.hid hRES
 have htk0:∀ (W:World) (r:Nat) (vt:Value),Rs W r (t::c) vt->w.heap.size+3<=r->Calls Tryz.prog 57 #[.pointer (some ⟨r,0,none⟩),.int .i64 1,.slice none 0 0] W (PPost (fun t c' v w'=>v=t.v/\Rs w' r c' vt) (w.heap.size+3) [213] W (tk 1 [] (t::c))):=fun W r vt h hB=>take_rs (B:=w.heap.size+3) (Ts:=[213]) h 1 [] _ (tx_nil _) hB (by simp)
 have htt:tk 1 [] (t::c)=.ok t c:=by
  unfold tk
  simp [hk1]
 rw[htt] at htk0
 clear htt
 have HTK0:=Lib.hid htk0
 clear hps ho hop hgw hRES htk0 hk hk1
 obtain⟨tkk,x,vk,vn,vs,tp⟩:=t
 simp only at h0p h1p
 unfold Tok.v at HKD HTK0
 generalize hxb:(⟨x.toArray⟩:ByteArray)=xb at *
 generalize hvb:(⟨vs.toArray⟩:ByteArray)=vb at *
 have HXB:=Lib.hid (And.intro hxb hvb)
 clear hxb hvb
 simp only at HKD
 go_enter_defers Tryz.func22,Tryz.ntmps22
 go_wp2_with fail
 refine HO.out.mono ?_
 rintro e w1 ⟨r,vt,rfl,hr,hrs,hb⟩
 have hp:=HPS.out.keep hb
 have hrB:w.heap.size+3<=r:=by simp at hr;omega
 have bk:Below w1.heap.size w1 (w1.alloc (.cells #[.pointer (some ⟨r,0,none⟩)] 118)):=balloc (Below.refl _ _) _
 have hp1:=hp.keep bk
 have hi1:InB (w1.alloc (.cells #[.pointer (some ⟨r,0,none⟩)] 118)) w1.heap.size r:=Blk.new _ _ _
 have hr1:=hrs.keep bk
 have hpk:=peek_rs hr1
 have hbB:w.heap.size+3<=w1.heap.size:=hp.s
 have x0:=Blk.cell hi1 0
 have xl:=Blk.lt hi1
 simp only[List.getElem?_toArray,List.getElem?_cons_zero] at x0
 unfold Tok.v at hpk
 simp only[HXB.out.1,HXB.out.2] at hpk
 obtain⟨W2,hW2⟩:∃ W2,w1.alloc (.cells #[.pointer (some ⟨r,0,none⟩)] 118)=W2:=⟨_,rfl⟩
 rw[hW2] at hpk hp1 hi1 hr1 x0 xl
 have HW2:=Lib.hid hW2
 have HPK:=Lib.hid hpk
 have HP1:=Lib.hid hp1
 have HI1:=Lib.hid hi1
 have HR1:=Lib.hid hr1
 clear hb hp hrs bk hp1 hi1 hr1 hpk hr hW2 HPS HO
 go_wp2_with fail
 rw[HW2.out]
 refine HPK.out.mono ?_
 rintro e w2 ⟨rfl,hb2⟩
 have bx:=Blk.new w2 122 #[.int .i64 tkk,.string xb,.int .i64 vk,.int .i64 vn,.string vb,.int .i64 tp]
 have bk2:Below w2.heap.size w2 (w2.alloc (.cells #[.int .i64 tkk,.string xb,.int .i64 vk,.int .i64 vn,.string vb,.int .i64 tp] 122)):=balloc (Below.refl _ _) _
 have hf:CF w (w2.alloc (.cells #[.int .i64 tkk,.string xb,.int .i64 vk,.int .i64 vn,.string vb,.int .i64 tp] 122)) #[.int .i64 0,.string ⟨#[]⟩,.slice none 0 0,.string ⟨#[]⟩,.slice none 0 0,.slice none 0 0,.slice none 0 0,.string ⟨#[]⟩,.int .i64 0,.int .i64 0,.slice none 0 0] w1.heap.size w2.heap.size r (⟨tkk,x,vk,vn,vs,tp⟩::c) vt tkk vk vn tp xb vb:=⟨(HP1.out.keep hb2).keep bk2,(Blk.below HI1.out hb2 (Blk.lt HI1.out)).below bk2 (by have:=hb2.size;omega),bx,(HR1.out.keep hb2).keep bk2,hrB,hbB,Nat.le_trans hbB (Nat.le_trans (Nat.le_of_lt xl) hb2.size)⟩
 have hkd:=HKD.out _ (HGW.out _ (hf.p.b))
 obtain⟨W3,hW3⟩:∃ W3,w2.alloc (.cells #[.int .i64 tkk,.string xb,.int .i64 vk,.int .i64 vn,.string vb,.int .i64 tp] 122)=W3:=⟨_,rfl⟩
 rw[hW3] at hf hkd
 have HW3:=Lib.hid hW3
 have HKD3:=Lib.hid hkd
 have HF3:=Lib.hid hf
 have z0:=hf.k.cell 0
 have z1:=hf.k.cell 1
 have z2:=hf.k.cell 2
 have z3:=hf.k.cell 3
 have z4:=hf.k.cell 4
 have z5:=hf.k.cell 5
 have zl:=hf.k.lt
 simp only[List.getElem?_toArray,List.getElem?_cons_zero,List.getElem?_cons_succ] at z0 z1 z2 z3 z4 z5
 clear bx bk2 hb2 hkd hf hW3 x0 xl HPK HP1 HI1 HR1 HKD HGW HW2
 go_upto_region 4 with fail
 rw[HW3.out]
 go_wp2_with fail
 refine HKD3.out.mono ?_
 rintro e w4 ⟨rfl,hb4⟩
 have hf4:=HF3.out.keep hb4
 have x0:=Blk.cell hf4.i 0
 have xl:=Blk.lt hf4.i
 have pl:=hf4.p.q.lt
 have k0:=hf4.p.q.cell 0
 have y0:=hf4.p.q.frozen 0
 have z1:=hf4.k.cell 1
 have z5:=hf4.k.cell 5
 have zl:=hf4.k.lt
 simp only[List.getElem?_toArray,List.getElem?_cons_zero,List.getElem?_cons_succ] at x0 k0 z1 z5
 have hf5:CF w (w4.setCell ⟨w.heap.size,0,none⟩ (.int .i64 K)) #[.int .i64 K,.string ⟨#[]⟩,.slice none 0 0,.string ⟨#[]⟩,.slice none 0 0,.slice none 0 0,.slice none 0 0,.string ⟨#[]⟩,.int .i64 0,.int .i64 0,.slice none 0 0] w1.heap.size w2.heap.size r (⟨tkk,x,vk,vn,vs,tp⟩::c) vt tkk vk vn tp xb vb:=hf4.store 0 (.int .i64 K)
 have HF5:=Lib.hid hf5
 clear hf4 hf5 hb4 HF3 HKD3 HW3 z0 z2 z3 z4
 have htk:=HTK0.out _ r vt HF5.out.rs hrB
 have HTK:=Lib.hid htk
 clear htk HTK0
 have xl5:=Blk.lt HF5.out.i
 go_wp2_with fail
 refine HTK.out.mono ?_
 rintro e w6 ⟨v6,rfl,⟨rfl,hr6⟩,hm6⟩
 have hf6:=HF5.out.take hm6 hr6
 have HF6:=Lib.hid hf6
 clear hm6 hr6 hf6 x0 xl pl k0 y0 z1 z5 zl xl5 HTK HF5
 have x0:=Blk.cell HF6.out.i 0
 have xl:=Blk.lt HF6.out.i
 have pl:=HF6.out.p.q.lt
 have k0:=HF6.out.p.q.cell 0
 have y0:=HF6.out.p.q.frozen 0
 have z1:=HF6.out.k.cell 1
 have z5:=HF6.out.k.cell 5
 have zl:=HF6.out.k.lt
 simp only[List.getElem?_toArray,List.getElem?_cons_zero,List.getElem?_cons_succ] at x0 k0 z1 z5
 rcases K14 with rfl | rfl
 ·have hin:=innS_any s fr _ pS0 hfs hss plS (fun W hW=>ppS W (HF6.out.p.b.trans (hW.mono (by have:=HF6.out.p.s;omega))))
  rw[hfr] at hin
  have HIN:=Lib.hid hin
  have HFR:=Lib.hid hfr
  have hre0:=HRES.out
  simp only[if_true] at hre0
  have HRE:=Lib.hid hre0
  clear hin plS ppS plB ppB hfs hss hfr hre0 HRES
  go_wp2_with fail
  refine HIN.out.mono ?_
  rintro e w7 hin
  rw[<-HFR.out] at hin
  rcases inn_split hin _ with ⟨a,e0,rfl,hre,hb7⟩ | ⟨v,x7,rfl,hR,hre,hb7⟩
  ·have hr2:=HRE.out.symm.trans hre
   subst hr2
   have HPX:=Lib.hid (HF6.out.p.keep hb7)
   clear HRE hre hin HIN hb7
   go_wp2_with fail
   exact cmd_door HPX.out rfl rfl rfl
  have hr2:=HRE.out.symm.trans hre
  subst hr2
  clear HRE hre hin HIN
  obtain⟨cv,rfl,ho⟩:=hR
  obtain⟨ad,cap,rfl⟩:=own_sl ho
  have hf7:=HF6.out.keep hb7
  have hsz:w.heap.size<=w6.heap.size:=by have:=HF6.out.p.s;omega
  clear hb7 HF6 x0 xl pl k0 y0 z1 z5 zl
  have mm1:MT 0 [61] w7 (w7.setCell ⟨w.heap.size,1,none⟩ (.string ⟨x7.name.toArray⟩)):=MT.setCell (MT.refl w7) hf7.p.q (by simp) (Nat.zero_le _) _
  have hh1:CF w (w7.setCell ⟨w.heap.size,1,none⟩ (.string ⟨x7.name.toArray⟩)) #[_,.string ⟨x7.name.toArray⟩,.slice none 0 0,.string ⟨#[]⟩,.slice none 0 0,.slice none 0 0,.slice none 0 0,.string ⟨#[]⟩,.int .i64 0,.int .i64 0,.slice none 0 0] w1.heap.size w2.heap.size r c vt tkk vk vn tp xb vb:=hf7.store 1 (.string ⟨x7.name.toArray⟩)
  have mm2:MT 0 [61] w7 ((w7.setCell ⟨w.heap.size,1,none⟩ (.string ⟨x7.name.toArray⟩)).setCell ⟨w.heap.size,2,none⟩ (.slice ad x7.cols.length cap)):=MT.setCell (mm1) hh1.p.q (by simp) (Nat.zero_le _) _
  have hh2:CF w ((w7.setCell ⟨w.heap.size,1,none⟩ (.string ⟨x7.name.toArray⟩)).setCell ⟨w.heap.size,2,none⟩ (.slice ad x7.cols.length cap)) #[_,.string ⟨x7.name.toArray⟩,.slice ad x7.cols.length cap,.string ⟨#[]⟩,.slice none 0 0,.slice none 0 0,.slice none 0 0,.string ⟨#[]⟩,.int .i64 0,.int .i64 0,.slice none 0 0] w1.heap.size w2.heap.size r c vt tkk vk vn tp xb vb:=hh1.store 2 (.slice ad x7.cols.length cap)
  have HMS:=Lib.hid (And.intro mm2 (And.intro ho hsz))
  have HF9:=Lib.hid hh2
  have x0:=Blk.cell hf7.i 0
  have xl:=Blk.lt hf7.i
  have pl:=hf7.p.q.lt
  have k0:=hf7.p.q.cell 0
  have y0:=hf7.p.q.frozen 0
  have k1:=hf7.p.q.cell 1
  have y1:=hf7.p.q.frozen 1
  have k2:=hf7.p.q.cell 2
  have y2:=hf7.p.q.frozen 2
  have k3:=hf7.p.q.cell 3
  have y3:=hf7.p.q.frozen 3
  have k4:=hf7.p.q.cell 4
  have y4:=hf7.p.q.frozen 4
  have k5:=hf7.p.q.cell 5
  have y5:=hf7.p.q.frozen 5
  have k6:=hf7.p.q.cell 6
  have y6:=hf7.p.q.frozen 6
  have k7:=hf7.p.q.cell 7
  have y7:=hf7.p.q.frozen 7
  have k8:=hf7.p.q.cell 8
  have y8:=hf7.p.q.frozen 8
  have k9:=hf7.p.q.cell 9
  have y9:=hf7.p.q.frozen 9
  have k10:=hf7.p.q.cell 10
  have y10:=hf7.p.q.frozen 10
  have ka:=hf7.p.a.cell 0
  have yka:=hf7.p.a.frozen 0
  have lka:=hf7.p.a.lt
  have ke:=hf7.p.e.cell 0
  have yke:=hf7.p.e.frozen 0
  have lke:=hf7.p.e.lt
  simp only[List.getElem?_toArray,List.getElem?_cons_zero,List.getElem?_cons_succ] at x0 k0 k1 k2 k3 k4 k5 k6 k7 k8 k9 k10 ka ke
  clear hf7 ho hsz mm1 hh1 mm2 hh2
  go_wp2_with fail
  rw[HF9.out.p.self]
  exact cmd_exit HF9.out.p rfl rfl rfl ⟨_,rfl,⟨_,_,_,_,_,rfl,(HMS.out.1.ownsRow (World.ownsRow.low HMS.out.2.1 HMS.out.2.2) (by decide)),World.ownsRow_nil _ _ _ _,atoms_nil _ _,chgs_nil _ _,World.ownsRow_nil _ _ _ _⟩,HF9.out.p.b⟩
 ·have hin:=innB_any s fr _ pB0 hfs hss plB (fun W hW=>ppB W (HF6.out.p.b.trans (hW.mono (by have:=HF6.out.p.s;omega))))
  rw[hfr] at hin
  have HIN:=Lib.hid hin
  have HFR:=Lib.hid hfr
  have hre0:=HRES.out
  simp only[reduceIte,Int.reduceEq] at hre0
  have HRE:=Lib.hid hre0
  clear hin plS ppS plB ppB hfs hss hfr hre0 HRES
  go_wp2_with fail
  refine HIN.out.mono ?_
  rintro e w7 hin
  rw[<-HFR.out] at hin
  rcases inn_split hin _ with ⟨a,e0,rfl,hre,hb7⟩ | ⟨v,x7,rfl,hR,hre,hb7⟩
  ·have hr2:=HRE.out.symm.trans hre
   subst hr2
   have HPX:=Lib.hid (HF6.out.p.keep hb7)
   clear HRE hre hin HIN hb7
   go_wp2_with fail
   exact cmd_door HPX.out rfl rfl rfl
  have hr2:=HRE.out.symm.trans hre
  subst hr2
  clear HRE hre hin HIN
  have ho:=hR
  obtain⟨_,hsl,_⟩:=hR
  obtain⟨ad,cap,rfl⟩:=own_sl hsl
  clear hsl
  have hf7:=HF6.out.keep hb7
  have hsz:w.heap.size<=w6.heap.size:=by have:=HF6.out.p.s;omega
  clear hb7 HF6 x0 xl pl k0 y0 z1 z5 zl
  have mm6:MT 0 [61] w7 (w7.setCell ⟨w.heap.size,6,none⟩ (.slice ad x7.length cap)):=MT.setCell (MT.refl w7) hf7.p.q (by simp) (Nat.zero_le _) _
  have hh6:CF w (w7.setCell ⟨w.heap.size,6,none⟩ (.slice ad x7.length cap)) #[_,.string ⟨#[]⟩,.slice none 0 0,.string ⟨#[]⟩,.slice none 0 0,.slice none 0 0,.slice ad x7.length cap,.string ⟨#[]⟩,.int .i64 0,.int .i64 0,.slice none 0 0] w1.heap.size w2.heap.size r c vt tkk vk vn tp xb vb:=hf7.store 6 (.slice ad x7.length cap)
  have HMS:=Lib.hid (And.intro mm6 (And.intro ho hsz))
  have HF9:=Lib.hid hh6
  have x0:=Blk.cell hf7.i 0
  have xl:=Blk.lt hf7.i
  have pl:=hf7.p.q.lt
  have k0:=hf7.p.q.cell 0
  have y0:=hf7.p.q.frozen 0
  have k1:=hf7.p.q.cell 1
  have y1:=hf7.p.q.frozen 1
  have k2:=hf7.p.q.cell 2
  have y2:=hf7.p.q.frozen 2
  have k3:=hf7.p.q.cell 3
  have y3:=hf7.p.q.frozen 3
  have k4:=hf7.p.q.cell 4
  have y4:=hf7.p.q.frozen 4
  have k5:=hf7.p.q.cell 5
  have y5:=hf7.p.q.frozen 5
  have k6:=hf7.p.q.cell 6
  have y6:=hf7.p.q.frozen 6
  have k7:=hf7.p.q.cell 7
  have y7:=hf7.p.q.frozen 7
  have k8:=hf7.p.q.cell 8
  have y8:=hf7.p.q.frozen 8
  have k9:=hf7.p.q.cell 9
  have y9:=hf7.p.q.frozen 9
  have k10:=hf7.p.q.cell 10
  have y10:=hf7.p.q.frozen 10
  have ka:=hf7.p.a.cell 0
  have yka:=hf7.p.a.frozen 0
  have lka:=hf7.p.a.lt
  have ke:=hf7.p.e.cell 0
  have yke:=hf7.p.e.frozen 0
  have lke:=hf7.p.e.lt
  simp only[List.getElem?_toArray,List.getElem?_cons_zero,List.getElem?_cons_succ] at x0 k0 k1 k2 k3 k4 k5 k6 k7 k8 k9 k10 ka ke
  clear hf7 ho hsz mm6 hh6
  go_wp2_with fail
  rw[HF9.out.p.self]
  exact cmd_exit HF9.out.p rfl rfl rfl ⟨_,rfl,⟨_,_,_,_,_,rfl,World.ownsRow_nil _ _ _ _,World.ownsRow_nil _ _ _ _,atoms_nil _ _,((HMS.out.2.1.low HMS.out.2.2).mt HMS.out.1 (by decide) (by decide)),World.ownsRow_nil _ _ _ _⟩,HF9.out.p.b⟩
def oneT (K:Int) (t:Tok) (l:List UInt8):PR Cmd:=if K=1 then innerP ((t.p.toNat+t.x.length:Nat):Int) ⟨[],[]⟩ (pS (l.drop (t.p.toNat+t.x.length))) fun x => { cmd0 with kind:=1,rel:=x }
 else innerP ((t.p.toNat+t.x.length:Nat):Int) [] (parseB (l.drop (t.p.toNat+t.x.length))) fun x => { cmd0 with kind:=4,b:=x }
theorem cmd_two {K:Int} {t:Tok} {c:List Tok} (s:ByteArray) (w:World) (hs:s.size<=281474976710656) (hg:GlobW w) (he:(lexR s.data.toList).e=0) (hts:(lexR s.data.toList).ts=t::c) (hK:kindC t=K) (K14:K=1∨K=4) :
 Calls Tryz.prog 22 #[.string s] w (CmdPost w (oneT K t s.data.toList)):=by
 have hsl:s.data.toList.length=s.size:=rfl
 have hgw:∀ W,Below w.heap.size w W->WordsAt W:=fun W hW=>hg.v.below hW
 have hop:=fun W (hW:Below w.heap.size w W)=>open_good s W hs (hg.g.below hW) he
 rw[hts] at hop
 have hk1:=kindC_one (t:=t) (by omega)
 obtain⟨b1,b2,b3⟩:=tile_head he hts (by rw[hk1];decide)
 have hxs:(⟨t.x.toArray⟩:ByteArray).size=t.x.length:=by simp [ByteArray.size]
 have h1p:t.p+(⟨t.x.toArray⟩:ByteArray).size<=281474976710656:=by rw[hxs];omega
 obtain⟨fr,hfr⟩:∃ fr,fr=t.p.toNat+t.x.length:=⟨_,rfl⟩
 have hfr1:(fr:Int)=t.p+(⟨t.x.toArray⟩:ByteArray).size:=by rw[hxs];omega
 have hfs:fr<=s.size:=by omega
 obtain⟨x1,x2⟩:=extract_all s fr hfs
 have plS:PlaceOk (pS (s.data.toList.drop fr)):=fun a e q=>by
  have:=pS_sure (s.data.toList.drop fr)
  rw[q] at this
  simp only[List.length_drop] at this
  exact⟨this.1,by omega⟩
 have plB:PlaceOk (parseB (s.data.toList.drop fr)):=fun a e q=>by
  have:=parseB_sure (s.data.toList.drop fr)
  rw[q] at this
  simp only[List.length_drop] at this
  exact⟨this.1,by omega⟩
 have cS:=fun W (hW:Below w.heap.size w W)=>sch_any (s.extract fr s.size) W (by omega) (hg.g.below hW)
 have cB:=fun W (hW:Below w.heap.size w W)=>batch_any (s.extract fr s.size) W (by omega) (hg.g.below hW)
 rw[x1] at cS cB
 unfold oneT
 rw[<-hfr]
 exact cmd_one s w t c hgw hop hK b1 h1p K14 fr hfr1 hfs hs _ plS cS _ plB cB
end Go.Proofs.YtgopfpjinohncaaGreatDoor
