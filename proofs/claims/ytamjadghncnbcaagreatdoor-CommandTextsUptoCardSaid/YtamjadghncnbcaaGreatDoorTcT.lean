/- command.Parse at next alone, walked (printed by mkcd7.py). osierlaw25.awake, walked without the readings of the lower layers. -/
import Derived.Test.YtamjadghncnbcaaGreatDoorDbT
import Derived.Test.YtamjadghncnbcaaGreatDoorDaT
import Derived.Test.YtamjadghncnbcaaGreatDoorCtxZT
import Derived.Test.YtamjadghncnbcaaGreatDoorDdT
import Derived.Test.YtamjadghncnbcaaGreatDoorGoT
import Derived.KernelRfl
namespace Go.Proofs.YtamjadghncnbcaaGreatDoor
open Go.RowKit
set_option linter.unusedVariables false
structure CF (w0 w:World) (cs:Array Value) (b tb r:Nat) (c:List Tok) (vt:Value) (tkk vk vn tp:Int) (xb vb:ByteArray):Prop where
 p:PCm w0 w0.heap.size cs w
 i:InB w b r
 k:Blk w tb 84 #[.int .i64 tkk,.string xb,.int .i64 vk,.int .i64 vn,.string vb,.int .i64 tp]
 rs:Rs w r c vt
 hr:w0.heap.size+3<=r
 hb:w0.heap.size+3<=b
 ht:w0.heap.size+3<=tb
section
variable {w0 w w' : World} {cs : Array Value} {b tb r : Nat} {c c' : List Tok} {vt : Value} {tkk vk vn tp : Int} {xb vb : ByteArray}
theorem CF.keep (h:CF w0 w cs b tb r c vt tkk vk vn tp xb vb) (hb:Below w.heap.size w w'):CF w0 w' cs b tb r c vt tkk vk vn tp xb vb :=
 ⟨h.p.keep hb,Blk.below h.i hb (Blk.lt h.i),h.k.below hb h.k.lt,h.rs.keep hb,h.hr,h.hb,h.ht⟩
theorem CF.take (h:CF w0 w cs b tb r c vt tkk vk vn tp xb vb) (hm:MT (w0.heap.size+3) [177] w w') (hr:Rs w' r c' vt):CF w0 w' cs b tb r c' vt tkk vk vn tp xb vb :=
 ⟨h.p.mt hm,Blk.mt h.i hm (by decide),h.k.mt hm (by decide),hr,h.hr,h.hb,h.ht⟩
theorem CF.store (h:CF w0 w cs b tb r c vt tkk vk vn tp xb vb) (i:Nat) (u:Value):CF w0 (w.setCell ⟨w0.heap.size,i,none⟩ u) (cs.setIfInBounds i u) b tb r c vt tkk vk vn tp xb vb:=by
 have h1:=h.hb
 have h2:=h.ht
 have m:MT 0 [34] w (w.setCell ⟨w0.heap.size,i,none⟩ u):=MT.setCell (MT.refl w) h.p.q (by simp) (Nat.zero_le _) _
 exact⟨h.p.store i u,Blk.mt h.i m (by decide),h.k.mt m (by decide),h.rs.mt m (by decide) (by decide),h.hr,h.hb,h.ht⟩
end
theorem kindC_one {t:Tok} (h:kindC t≠0):t.k=1:=Decidable.byContradiction fun q=>h (kindC_name q)
theorem PCm.self {w0 w:World} {n:Nat} {x0 x1 x2 x3 x4 x5 x6 x7 x8 x9 x10:Value} (h:PCm w0 n #[x0,x1,x2,x3,x4,x5,x6,x7,x8,x9,x10] w) :
 ((((((((((w.setCell ⟨n,0,none⟩ x0).setCell ⟨n,1,none⟩ x1).setCell ⟨n,2,none⟩ x2).setCell ⟨n,3,none⟩ x3).setCell ⟨n,4,none⟩ x4).setCell ⟨n,5,none⟩ x5).setCell ⟨n,6,none⟩ x6).setCell ⟨n,7,none⟩ x7).setCell ⟨n,8,none⟩ x8).setCell ⟨n,9,none⟩ x9).setCell ⟨n,10,none⟩ x10=w:=by
 rw[setCell_self (i:=0) (v:=x0) h.q rfl,setCell_self (i:=1) (v:=x1) h.q rfl,setCell_self (i:=2) (v:=x2) h.q rfl,setCell_self (i:=3) (v:=x3) h.q rfl,setCell_self (i:=4) (v:=x4) h.q rfl,setCell_self (i:=5) (v:=x5) h.q rfl,setCell_self (i:=6) (v:=x6) h.q rfl,setCell_self (i:=7) (v:=x7) h.q rfl,setCell_self (i:=8) (v:=x8) h.q rfl,setCell_self (i:=9) (v:=x9) h.q rfl,setCell_self (i:=10) (v:=x10) h.q rfl]
set_option maxHeartbeats 8000000 in
set_option maxRecDepth 100000 in
theorem cmd_f7 (s:ByteArray) (w:World) (t:Tok) (c:List Tok) (hgw:∀ W,Below w.heap.size w W->WordsAt W)
 (hop:∀ W,Below w.heap.size w W->Calls Tryz.prog 40 #[.string s] W fun e w'=>∃ r vt,e=.returned (.pointer (some ⟨r,0,none⟩))/\W.heap.size<=r/\Rs w' r (t::c) vt/\Below W.heap.size W w')
 (hk:kindC t=7) (h0p:0<=t.p) (h1p:t.p+(⟨t.x.toArray⟩:ByteArray).size<=281474976710656) :
 Calls Tryz.prog 13 #[.string s] w (CmdPost w (endC (fieldsP 7 c))):=by
 have hmf:∀ (fn:Fn) (first cap:Array Value) (w:World),(Instr.makeFunc fn first cap).run Tryz.prog w=.ok (.func fn first cap) w:=fun _ _ _ _=>rfl
 have hps:=PCm.start w
 have ho:=hop _ hps.b
 have HPS:=Lib.hid hps
 have HO:=Lib.hid ho
 have HGW:=Lib.hid hgw
 have HKD:=Lib.hid (fun W hW=>kindOf_any t W hW)
 rw[hk] at HKD
 have hk1:t.k=1:=kindC_one (by rw[hk];decide)
 have hK0b:((7:Int) == 0)=false:=rfl
 obtain⟨RES,hRES⟩:∃ RES,(endC (fieldsP 7 c))=RES:=⟨_,rfl⟩
 rw[hRES]
 have HRES:=Lib.hid hRES
 have htk0:∀ (W:World) (r:Nat) (vt:Value),Rs W r (t::c) vt->w.heap.size+3<=r->Calls Tryz.prog 43 #[.pointer (some ⟨r,0,none⟩),.int .i64 1,.slice none 0 0] W (PPost (fun t c' v w'=>v=t.v/\Rs w' r c' vt) (w.heap.size+3) [177] W (tk 1 [] (t::c))):=fun W r vt h hB=>take_rs (B:=w.heap.size+3) (Ts:=[177]) h 1 [] _ (tx_nil _) hB (by simp)
 have htt:tk 1 [] (t::c)=.ok t c:=by
  unfold tk
  simp [hk1]
 rw[htt] at htk0
 clear htt
 have HTK0:=Lib.hid htk0
 clear hps ho hop hgw hRES htk0 hk hk1
 obtain⟨tkk,x,vk,vn,vs,tp⟩:=t
 simp only at h0p h1p
 unfold Tok.v at HKD HTK0
 generalize hxb:(⟨x.toArray⟩:ByteArray)=xb at *
 generalize hvb:(⟨vs.toArray⟩:ByteArray)=vb at *
 have HXB:=Lib.hid (And.intro hxb hvb)
 clear hxb hvb
 simp only at HKD
 go_enter_defers Tryz.func13,Tryz.ntmps13
 go_wp2_with fail
 refine HO.out.mono ?_
 rintro e w1 ⟨r,vt,rfl,hr,hrs,hb⟩
 have hp:=HPS.out.keep hb
 have hrB:w.heap.size+3<=r:=by simp at hr;omega
 have bk:Below w1.heap.size w1 (w1.alloc (.cells #[.pointer (some ⟨r,0,none⟩)] 80)):=balloc (Below.refl _ _) _
 have hp1:=hp.keep bk
 have hi1:InB (w1.alloc (.cells #[.pointer (some ⟨r,0,none⟩)] 80)) w1.heap.size r:=Blk.new _ _ _
 have hr1:=hrs.keep bk
 have hpk:=peek_rs hr1
 have hbB:w.heap.size+3<=w1.heap.size:=hp.s
 have x0:=Blk.cell hi1 0
 have xl:=Blk.lt hi1
 simp only[List.getElem?_toArray,List.getElem?_cons_zero] at x0
 unfold Tok.v at hpk
 simp only[HXB.out.1,HXB.out.2] at hpk
 obtain⟨W2,hW2⟩:∃ W2,w1.alloc (.cells #[.pointer (some ⟨r,0,none⟩)] 80)=W2:=⟨_,rfl⟩
 rw[hW2] at hpk hp1 hi1 hr1 x0 xl
 have HW2:=Lib.hid hW2
 have HPK:=Lib.hid hpk
 have HP1:=Lib.hid hp1
 have HI1:=Lib.hid hi1
 have HR1:=Lib.hid hr1
 clear hb hp hrs bk hp1 hi1 hr1 hpk hr hW2 HPS HO
 go_wp2_with fail
 rw[HW2.out]
 refine HPK.out.mono ?_
 rintro e w2 ⟨rfl,hb2⟩
 have bx:=Blk.new w2 84 #[.int .i64 tkk,.string xb,.int .i64 vk,.int .i64 vn,.string vb,.int .i64 tp]
 have bk2:Below w2.heap.size w2 (w2.alloc (.cells #[.int .i64 tkk,.string xb,.int .i64 vk,.int .i64 vn,.string vb,.int .i64 tp] 84)):=balloc (Below.refl _ _) _
 have hf:CF w (w2.alloc (.cells #[.int .i64 tkk,.string xb,.int .i64 vk,.int .i64 vn,.string vb,.int .i64 tp] 84)) #[.int .i64 0,.string ⟨#[]⟩,.slice none 0 0,.string ⟨#[]⟩,.slice none 0 0,.slice none 0 0,.slice none 0 0,.string ⟨#[]⟩,.int .i64 0,.int .i64 0,.slice none 0 0] w1.heap.size w2.heap.size r (⟨tkk,x,vk,vn,vs,tp⟩::c) vt tkk vk vn tp xb vb:=⟨(HP1.out.keep hb2).keep bk2,(Blk.below HI1.out hb2 (Blk.lt HI1.out)).below bk2 (by have:=hb2.size;omega),bx,(HR1.out.keep hb2).keep bk2,hrB,hbB,Nat.le_trans hbB (Nat.le_trans (Nat.le_of_lt xl) hb2.size)⟩
 have hkd:=HKD.out _ (HGW.out _ (hf.p.b))
 obtain⟨W3,hW3⟩:∃ W3,w2.alloc (.cells #[.int .i64 tkk,.string xb,.int .i64 vk,.int .i64 vn,.string vb,.int .i64 tp] 84)=W3:=⟨_,rfl⟩
 rw[hW3] at hf hkd
 have HW3:=Lib.hid hW3
 have HKD3:=Lib.hid hkd
 have HF3:=Lib.hid hf
 have z0:=hf.k.cell 0
 have z1:=hf.k.cell 1
 have z2:=hf.k.cell 2
 have z3:=hf.k.cell 3
 have z4:=hf.k.cell 4
 have z5:=hf.k.cell 5
 have zl:=hf.k.lt
 simp only[List.getElem?_toArray,List.getElem?_cons_zero,List.getElem?_cons_succ] at z0 z1 z2 z3 z4 z5
 clear bx bk2 hb2 hkd hf hW3 x0 xl HPK HP1 HI1 HR1 HKD HGW HW2
 go_upto_region 4 with fail
 rw[HW3.out]
 go_wp2_with fail
 refine HKD3.out.mono ?_
 rintro e w4 ⟨rfl,hb4⟩
 have hf4:=HF3.out.keep hb4
 have x0:=Blk.cell hf4.i 0
 have xl:=Blk.lt hf4.i
 have pl:=hf4.p.q.lt
 have k0:=hf4.p.q.cell 0
 have y0:=hf4.p.q.frozen 0
 have z1:=hf4.k.cell 1
 have z5:=hf4.k.cell 5
 have zl:=hf4.k.lt
 simp only[List.getElem?_toArray,List.getElem?_cons_zero,List.getElem?_cons_succ] at x0 k0 z1 z5
 have hf5:CF w (w4.setCell ⟨w.heap.size,0,none⟩ (.int .i64 7)) #[.int .i64 7,.string ⟨#[]⟩,.slice none 0 0,.string ⟨#[]⟩,.slice none 0 0,.slice none 0 0,.slice none 0 0,.string ⟨#[]⟩,.int .i64 0,.int .i64 0,.slice none 0 0] w1.heap.size w2.heap.size r (⟨tkk,x,vk,vn,vs,tp⟩::c) vt tkk vk vn tp xb vb:=hf4.store 0 (.int .i64 7)
 have HF5:=Lib.hid hf5
 clear hf4 hf5 hb4 HF3 HKD3 HW3 z0 z2 z3 z4
 have htk:=HTK0.out _ r vt HF5.out.rs hrB
 have HTK:=Lib.hid htk
 clear htk HTK0
 have xl5:=Blk.lt HF5.out.i
 go_wp2_with fail
 refine HTK.out.mono ?_
 rintro e w6 ⟨v6,rfl,⟨rfl,hr6⟩,hm6⟩
 have hf6:=HF5.out.take hm6 hr6
 have HF6:=Lib.hid hf6
 clear hm6 hr6 hf6 x0 xl pl k0 y0 z1 z5 zl xl5 HTK HF5
 have x0:=Blk.cell HF6.out.i 0
 have xl:=Blk.lt HF6.out.i
 have pl:=HF6.out.p.q.lt
 have k0:=HF6.out.p.q.cell 0
 have y0:=HF6.out.p.q.frozen 0
 have z1:=HF6.out.k.cell 1
 have z5:=HF6.out.k.cell 5
 have zl:=HF6.out.k.lt
 simp only[List.getElem?_toArray,List.getElem?_cons_zero,List.getElem?_cons_succ] at x0 k0 z1 z5
 have hc:=cnum_any (B:=w.heap.size+3) HF6.out.rs hrB HF6.out.p.s
 rcases hq:numP c with ⟨a,e⟩ | ⟨u7,c7⟩
 ·rw[hq] at hc
  have HC:=Lib.hid hc
  have hre:=HRES.out
  simp [fieldsP,endC,bindP,hq] at hre
  subst hre
  clear hc hq HRES
  go_wp2_with fail
  refine HC.out.mono ?_
  rintro e wx ⟨rfl,hm⟩
  have HPX:=Lib.hid (HF6.out.p.mt hm)
  clear hm
  go_wp2_with fail
  exact cmd_door HPX.out rfl rfl rfl
 rw[hq] at hc
 have HC:=Lib.hid hc
 have HQ7:=Lib.hid hq
 clear hc hq
 go_wp2_with fail
 refine HC.out.mono ?_
 rintro e w7 ⟨v7,rfl,⟨rfl,hr7⟩,hm7⟩
 have hf7:=HF6.out.take hm7 hr7
 clear HC HF6 x0 xl pl k0 y0 z1 z5 zl
 have x0:=Blk.cell hf7.i 0
 have xl:=Blk.lt hf7.i
 have pl:=hf7.p.q.lt
 have k8:=hf7.p.q.cell 8
 have y8:=hf7.p.q.frozen 8
 simp only[List.getElem?_toArray,List.getElem?_cons_zero,List.getElem?_cons_succ] at x0 k8
 have mf7:MT 0 [34] w7 (w7.setCell ⟨w.heap.size,8,none⟩ (.int .i64 u7)):=MT.setCell (MT.refl w7) hf7.p.q (by simp) (Nat.zero_le _) _
 have hg7:CF w (w7.setCell ⟨w.heap.size,8,none⟩ (.int .i64 u7)) #[.int .i64 7,.string ⟨#[]⟩,.slice none 0 0,.string ⟨#[]⟩,.slice none 0 0,.slice none 0 0,.slice none 0 0,.string ⟨#[]⟩,.int .i64 u7,.int .i64 0,.slice none 0 0] w1.heap.size w2.heap.size r c7 vt tkk vk vn tp xb vb:=hf7.store 8 (.int .i64 u7)
 have HF7:=Lib.hid hg7
 clear hm7 hr7 hf7 mf7 hg7
 have hc:=cnum_any (B:=w.heap.size+3) HF7.out.rs hrB HF7.out.p.s
 rcases hq:numP c7 with ⟨a,e⟩ | ⟨u8,c8⟩
 ·rw[hq] at hc
  have HC:=Lib.hid hc
  have hre:=HRES.out
  simp [fieldsP,endC,bindP,hq,HQ7.out] at hre
  subst hre
  clear hc hq HRES
  go_wp2_with fail
  refine HC.out.mono ?_
  rintro e wx ⟨rfl,hm⟩
  have HPX:=Lib.hid (HF7.out.p.mt hm)
  clear hm
  go_wp2_with fail
  exact cmd_door HPX.out rfl rfl rfl
 rw[hq] at hc
 have HC:=Lib.hid hc
 have HQ8:=Lib.hid hq
 clear hc hq
 go_wp2_with fail
 refine HC.out.mono ?_
 rintro e w8 ⟨v8,rfl,⟨rfl,hr8⟩,hm8⟩
 have hf8:=HF7.out.take hm8 hr8
 clear HC HF7 x0 xl pl k8 y8
 have x0:=Blk.cell hf8.i 0
 have xl:=Blk.lt hf8.i
 have pl:=hf8.p.q.lt
 have k9:=hf8.p.q.cell 9
 have y9:=hf8.p.q.frozen 9
 simp only[List.getElem?_toArray,List.getElem?_cons_zero,List.getElem?_cons_succ] at x0 k9
 have mf8:MT 0 [34] w8 (w8.setCell ⟨w.heap.size,9,none⟩ (.int .i64 u8)):=MT.setCell (MT.refl w8) hf8.p.q (by simp) (Nat.zero_le _) _
 have hg8:CF w (w8.setCell ⟨w.heap.size,9,none⟩ (.int .i64 u8)) #[.int .i64 7,.string ⟨#[]⟩,.slice none 0 0,.string ⟨#[]⟩,.slice none 0 0,.slice none 0 0,.slice none 0 0,.string ⟨#[]⟩,.int .i64 u7,.int .i64 u8,.slice none 0 0] w1.heap.size w2.heap.size r c8 vt tkk vk vn tp xb vb:=hf8.store 9 (.int .i64 u8)
 have HF8:=Lib.hid hg8
 clear hm8 hr8 hf8 mf8 hg8
 have hc:=take_rs (B:=w.heap.size+3) (Ts:=[177]) HF8.out.rs 0 [] _ (tx_nil _) hrB (by simp)
 rcases hq:tk 0 [] c8 with ⟨a,e⟩ | ⟨x9,c9⟩
 ·rw[hq] at hc
  have HC:=Lib.hid hc
  have hre:=HRES.out
  simp [fieldsP,endC,bindP,hq,HQ7.out,HQ8.out] at hre
  subst hre
  clear hc hq HRES
  go_wp2_with fail
  refine HC.out.mono ?_
  rintro e wx ⟨rfl,hm⟩
  have HPX:=Lib.hid (HF8.out.p.mt hm)
  clear hm
  go_wp2_with fail
  exact cmd_door HPX.out rfl rfl rfl
 rw[hq] at hc
 have HC:=Lib.hid hc
 have hre:=HRES.out
 simp [fieldsP,endC,bindP,hq,HQ7.out,HQ8.out,cmd0] at hre
 subst hre
 clear hc hq HRES
 go_wp2_with fail
 refine HC.out.mono ?_
 rintro e w9 ⟨v9,rfl,⟨rfl,hr9⟩,hm9⟩
 have hf9:=HF8.out.take hm9 hr9
 have HF9:=Lib.hid hf9
 clear hm9 hr9 hf9 HC HF8 x0 xl pl k9 y9
 have x0:=Blk.cell HF9.out.i 0
 have xl:=Blk.lt HF9.out.i
 have pl:=HF9.out.p.q.lt
 have k0:=HF9.out.p.q.cell 0
 have y0:=HF9.out.p.q.frozen 0
 have k1:=HF9.out.p.q.cell 1
 have y1:=HF9.out.p.q.frozen 1
 have k2:=HF9.out.p.q.cell 2
 have y2:=HF9.out.p.q.frozen 2
 have k3:=HF9.out.p.q.cell 3
 have y3:=HF9.out.p.q.frozen 3
 have k4:=HF9.out.p.q.cell 4
 have y4:=HF9.out.p.q.frozen 4
 have k5:=HF9.out.p.q.cell 5
 have y5:=HF9.out.p.q.frozen 5
 have k6:=HF9.out.p.q.cell 6
 have y6:=HF9.out.p.q.frozen 6
 have k7:=HF9.out.p.q.cell 7
 have y7:=HF9.out.p.q.frozen 7
 have k8:=HF9.out.p.q.cell 8
 have y8:=HF9.out.p.q.frozen 8
 have k9:=HF9.out.p.q.cell 9
 have y9:=HF9.out.p.q.frozen 9
 have k10:=HF9.out.p.q.cell 10
 have y10:=HF9.out.p.q.frozen 10
 have ka:=HF9.out.p.a.cell 0
 have yka:=HF9.out.p.a.frozen 0
 have lka:=HF9.out.p.a.lt
 have ke:=HF9.out.p.e.cell 0
 have yke:=HF9.out.p.e.frozen 0
 have lke:=HF9.out.p.e.lt
 simp only[List.getElem?_toArray,List.getElem?_cons_zero,List.getElem?_cons_succ] at x0 k0 k1 k2 k3 k4 k5 k6 k7 k8 k9 k10 ka ke
 go_wp2_with fail
 rw[HF9.out.p.self]
 exact cmd_exit HF9.out.p rfl rfl rfl ⟨_,rfl,⟨_,_,_,_,_,rfl,World.ownsRow_nil _ _ _ _,World.ownsRow_nil _ _ _ _,atoms_nil _ _,chgs_nil _ _,World.ownsRow_nil _ _ _ _⟩,HF9.out.p.b⟩
def bsN25:ByteArray:=⟨#[110,101,120,116,32,51,32,49,48]⟩
def tkN25:Tok:=⟨1,[110,101,120,116],0,0,[],0⟩
def rsN25:List Tok:=[⟨2,[51],1,3,[],5⟩,⟨2,[49,48],1,10,[],7⟩,endTok 9]
theorem n25_l:lexR bsN25.data.toList=⟨tkN25::rsN25,0,0⟩:=by kernel_rfl
theorem n25_q:endC (fieldsP 7 rsN25)=.ok { cmd0 with kind:=7,id:=3,n:=10 } [endTok 9]:=by kernel_rfl
theorem n25_t:(⟨(textC { cmd0 with kind:=7,id:=3,n:=10 }).toArray⟩:ByteArray)=⟨#[110,101,120,116,32,51,32,49,48]⟩:=by kernel_rfl
theorem n25_b:blankB (⟨#[32]⟩:ByteArray).data.toList=true:=by kernel_rfl
theorem n25_s:TxtB { cmd0 with kind:=7,id:=3,n:=10 } :=
 ⟨Nat.zero_le _,(fun _ h=>by cases h),Nat.zero_le _,(fun _ h=>by cases h),(fun _ h=>by cases h),(fun _ h=>by cases h),(fun _ h=>by cases h),(fun _ h=>by cases h),Nat.zero_le _,(fun _=>by decide),Nat.zero_le _,by decide,by decide,(fun _ h=>by cases h)⟩
set_option maxHeartbeats 4000000 in
set_option maxRecDepth 100000 in
theorem awake25n (w:World) (hg:GlobW w):Calls Tryz.prog 15 #[] w fun e w'=>e=.returned (.bool true)/\Below w.heap.size w w':=by
 have hop:=fun W (hW:Below w.heap.size w W)=>open_good bsN25 W (by decide) (hg.g.below hW) (by rw[n25_l])
 rw[n25_l] at hop
 have hp:=cmd_f7 bsN25 w tkN25 rsN25 (fun W hW=>hg.v.below hW) hop (by decide) (by decide) (by decide)
 rw[n25_q] at hp
 have HP:=Lib.hid hp
 have HT:=Lib.hid (fun W ca (hc:CmdAt W ca { cmd0 with kind:=7,id:=3,n:=10 }) (hW:Below w.heap.size w W)=>(n25_t ▸ text_any W ca _ hc n25_s (hg.below hW)))
 have HBL:=Lib.hid (fun W (hW:Below w.heap.size w W)=>blank_any ⟨#[32]⟩ W (by decide) (hg.below hW).g)
 rw[n25_b] at HBL
 clear hp hg hop
 unfold bsN25 at HP
 go_enter Tryz.func15,Tryz.ntmps15
 go_wp2_with fail
 refine HP.out.mono ?_
 rintro e w1 ⟨cells,rfl,hown,hb⟩
 have hat:CmdAt w1 cells { cmd0 with kind:=7,id:=3,n:=10 }:=by
  obtain⟨cv,hv,av,bv,rv,rfl,h1,h2,h3,h4,h5⟩:=hown
  exact⟨cv,hv,av,bv,rv,rfl,ColsOwn.at h1 (Nat.zero_le _),OwnS.strs h2 (Nat.zero_le _),h3.at (Nat.zero_le _) (fun a h=>by cases h),h4.at (Nat.zero_le _) (fun a h=>by cases h),RowAt.ofOwn h5 rfl (fun a h=>by cases h) (Nat.zero_le _)⟩
 obtain⟨x1,x2,x3,o1,o2,o3,o4,o5,n1,l1,n2,l2,n3,l3,n4,l4,n5,l5,rfl⟩:=hat.form
 simp only[cmd0] at hat ⊢
 have hb1:=balloc hb (.cells #[.int .i64 7,.string x1,.slice o1 n1 l1,.string x2,.slice o2 n2 l2,.slice o3 n3 l3,.slice o4 n4 l4,.string x3,.int .i64 3,.int .i64 10,.slice o5 n5 l5] 34)
 have hat1:=hat.keep (balloc (Below.refl w1.heap.size w1) (.cells #[.int .i64 7,.string x1,.slice o1 n1 l1,.string x2,.slice o2 n2 l2,.slice o3 n3 l3,.slice o4 n4 l4,.string x3,.int .i64 3,.int .i64 10,.slice o5 n5 l5] 34))
 have HTX:=Lib.hid (HT.out _ _ hat1 hb1)
 have HB1:=Lib.hid hb1
 clear hb hb1 hat hat1 hown HT HP
 go_wp2_with fail
 refine HTX.out.mono ?_
 rintro e w2 ⟨rfl,hb2⟩
 have hb3:=HB1.out.trans (hb2.mono HB1.out.size)
 have HB3:=Lib.hid hb3
 have HB4:=Lib.hid (HBL.out _ hb3)
 clear hb2 hb3 HTX HBL HB1
 go_wp2_with fail
 refine HB4.out.mono ?_
 rintro e w3 ⟨rfl,hb4⟩
 have HB5:=Lib.hid (HB3.out.trans (hb4.mono HB3.out.size))
 clear hb4
 go_wp2_with fail
 go_ret
 exact⟨by first | rfl | simp,HB5.out⟩
end Go.Proofs.YtamjadghncnbcaaGreatDoor
