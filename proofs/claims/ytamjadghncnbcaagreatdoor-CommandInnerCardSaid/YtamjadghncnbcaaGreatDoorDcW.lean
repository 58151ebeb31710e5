/- command.Parse, walked (printed by mkcd4.py): its frame; lines that are no commands. command.Parse at every line. -/
import Derived.Test.YtamjadghncnbcaaGreatDoorDbW
import Derived.Test.YtamjadghncnbcaaGreatDoorDnW
import Derived.Test.YtamjadghncnbcaaGreatDoorGzW
import Derived.Test.YtamjadghncnbcaaGreatDoorGfW
import Derived.Test.YtamjadghncnbcaaGreatDoorBbW
import Derived.Test.YtamjadghncnbcaaGreatDoorKfW
import Derived.Test.YtamjadghncnbcaaGreatDoorJyW
namespace Go.Proofs.YtamjadghncnbcaaGreatDoor
open Go.RowKit
set_option linter.unusedVariables false
structure CF (w0 w:World) (cs:Array Value) (b tb r:Nat) (c:List Tok) (vt:Value) (tkk vk vn tp:Int) (xb vb:ByteArray):Prop where
 p:PCm w0 w0.heap.size cs w
 i:InB w b r
 k:Blk w tb 84 #[.int .i64 tkk,.string xb,.int .i64 vk,.int .i64 vn,.string vb,.int .i64 tp]
 rs:Rs w r c vt
 hr:w0.heap.size+3<=r
 hb:w0.heap.size+3<=b
 ht:w0.heap.size+3<=tb
section
variable {w0 w w' : World} {cs : Array Value} {b tb r : Nat} {c c' : List Tok} {vt : Value} {tkk vk vn tp : Int} {xb vb : ByteArray}
theorem CF.keep (h:CF w0 w cs b tb r c vt tkk vk vn tp xb vb) (hb:Below w.heap.size w w'):CF w0 w' cs b tb r c vt tkk vk vn tp xb vb :=
 ⟨h.p.keep hb,Blk.below h.i hb (Blk.lt h.i),h.k.below hb h.k.lt,h.rs.keep hb,h.hr,h.hb,h.ht⟩
theorem CF.take (h:CF w0 w cs b tb r c vt tkk vk vn tp xb vb) (hm:MT (w0.heap.size+3) [177] w w') (hr:Rs w' r c' vt):CF w0 w' cs b tb r c' vt tkk vk vn tp xb vb :=
 ⟨h.p.mt hm,Blk.mt h.i hm (by decide),h.k.mt hm (by decide),hr,h.hr,h.hb,h.ht⟩
theorem CF.store (h:CF w0 w cs b tb r c vt tkk vk vn tp xb vb) (i:Nat) (u:Value):CF w0 (w.setCell ⟨w0.heap.size,i,none⟩ u) (cs.setIfInBounds i u) b tb r c vt tkk vk vn tp xb vb:=by
 have h1:=h.hb
 have h2:=h.ht
 have m:MT 0 [34] w (w.setCell ⟨w0.heap.size,i,none⟩ u):=MT.setCell (MT.refl w) h.p.q (by simp) (Nat.zero_le _) _
 exact⟨h.p.store i u,Blk.mt h.i m (by decide),h.k.mt m (by decide),h.rs.mt m (by decide) (by decide),h.hr,h.hb,h.ht⟩
end
theorem inn_split {α:Type} {R:Nat->World->Value->α->Prop} {z:α} {fr:Int} {w w':World} {p:PR α} {e:Ending} (h:InnPost R z fr w p e w') (f:α->Cmd) :
 (∃ a e0,e=.panicked [{ v:=faultV (fr+a) e0,recovered:=false }]/\innerP fr z p f=.bad (fr+a) e0/\Below w.heap.size w w')∨(∃ v x,e=.returned v/\R w.heap.size w' v x/\innerP fr z p f=.ok (f x) []/\Below w.heap.size w w'):=by
 cases p with
 | bad a e0 =>
   obtain⟨h1,h2,h3⟩:=h
   by_cases q:e0=0
   ·obtain⟨v,h4,h5⟩:=h2 q
    exact .inr ⟨v,z,h4,h5,by unfold innerP;simp [q],h3⟩
   ·exact .inl ⟨a,e0,h1 q,by unfold innerP;simp [q],h3⟩
 | ok x c =>
   obtain⟨v,h1,h2,h3⟩:=h
   exact .inr ⟨v,x,h1,h2,rfl,h3⟩
theorem kindC_one {t:Tok} (h:kindC t≠0):t.k=1:=Decidable.byContradiction fun q=>h (kindC_name q)
theorem PCm.self {w0 w:World} {n:Nat} {x0 x1 x2 x3 x4 x5 x6 x7 x8 x9 x10:Value} (h:PCm w0 n #[x0,x1,x2,x3,x4,x5,x6,x7,x8,x9,x10] w) :
 ((((((((((w.setCell ⟨n,0,none⟩ x0).setCell ⟨n,1,none⟩ x1).setCell ⟨n,2,none⟩ x2).setCell ⟨n,3,none⟩ x3).setCell ⟨n,4,none⟩ x4).setCell ⟨n,5,none⟩ x5).setCell ⟨n,6,none⟩ x6).setCell ⟨n,7,none⟩ x7).setCell ⟨n,8,none⟩ x8).setCell ⟨n,9,none⟩ x9).setCell ⟨n,10,none⟩ x10=w:=by
 rw[setCell_self (i:=0) (v:=x0) h.q rfl,setCell_self (i:=1) (v:=x1) h.q rfl,setCell_self (i:=2) (v:=x2) h.q rfl,setCell_self (i:=3) (v:=x3) h.q rfl,setCell_self (i:=4) (v:=x4) h.q rfl,setCell_self (i:=5) (v:=x5) h.q rfl,setCell_self (i:=6) (v:=x6) h.q rfl,setCell_self (i:=7) (v:=x7) h.q rfl,setCell_self (i:=8) (v:=x8) h.q rfl,setCell_self (i:=9) (v:=x9) h.q rfl,setCell_self (i:=10) (v:=x10) h.q rfl]
set_option maxHeartbeats 8000000 in
set_option maxRecDepth 100000 in
theorem cmd_none (s:ByteArray) (w:World) (t:Tok) (c:List Tok) (hgw:∀ W,Below w.heap.size w W->WordsAt W)
 (hop:∀ W,Below w.heap.size w W->Calls Tryz.prog 40 #[.string s] W fun e w'=>∃ r vt,e=.returned (.pointer (some ⟨r,0,none⟩))/\W.heap.size<=r/\Rs w' r (t::c) vt/\Below W.heap.size W w')
 (hk:kindC t=0) :
 Calls Tryz.prog 13 #[.string s] w (CmdPost w ((.bad t.p 250:PR Cmd))):=by
 have hmf:∀ (fn:Fn) (first cap:Array Value) (w:World),(Instr.makeFunc fn first cap).run Tryz.prog w=.ok (.func fn first cap) w:=fun _ _ _ _=>rfl
 have hps:=PCm.start w
 have ho:=hop _ hps.b
 have HPS:=Lib.hid hps
 have HO:=Lib.hid ho
 have HGW:=Lib.hid hgw
 have HKD:=Lib.hid (fun W hW=>kindOf_any t W hW)
 rw[hk] at HKD
 clear hk
 skip
 obtain⟨RES,hRES⟩:∃ RES,((.bad t.p 250:PR Cmd))=RES:=⟨_,rfl⟩
 rw[hRES]
 have HRES:=Lib.hid hRES
 have htk0:∀ (W:World) (r:Nat) (vt:Value),Rs W r (t::c) vt->w.heap.size+3<=r->Calls Tryz.prog 43 #[.pointer (some ⟨r,0,none⟩),.int .i64 1,.slice none 0 0] W (PPost (fun t c' v w'=>v=t.v/\Rs w' r c' vt) (w.heap.size+3) [177] W (tk 1 [] (t::c))):=fun W r vt h hB=>take_rs (B:=w.heap.size+3) (Ts:=[177]) h 1 [] _ (tx_nil _) hB (by simp)
 have HTK0:=Lib.hid htk0
 clear hps ho hop hgw hRES htk0
 obtain⟨tkk,x,vk,vn,vs,tp⟩:=t
 skip
 unfold Tok.v at HKD HTK0
 generalize hxb:(⟨x.toArray⟩:ByteArray)=xb at *
 generalize hvb:(⟨vs.toArray⟩:ByteArray)=vb at *
 have HXB:=Lib.hid (And.intro hxb hvb)
 clear hxb hvb
 simp only at HKD
 go_enter_defers Tryz.func13,Tryz.ntmps13
 go_wp2_with fail
 refine HO.out.mono ?_
 rintro e w1 ⟨r,vt,rfl,hr,hrs,hb⟩
 have hp:=HPS.out.keep hb
 have hrB:w.heap.size+3<=r:=by simp at hr;omega
 have bk:Below w1.heap.size w1 (w1.alloc (.cells #[.pointer (some ⟨r,0,none⟩)] 80)):=balloc (Below.refl _ _) _
 have hp1:=hp.keep bk
 have hi1:InB (w1.alloc (.cells #[.pointer (some ⟨r,0,none⟩)] 80)) w1.heap.size r:=Blk.new _ _ _
 have hr1:=hrs.keep bk
 have hpk:=peek_rs hr1
 have hbB:w.heap.size+3<=w1.heap.size:=hp.s
 have x0:=Blk.cell hi1 0
 have xl:=Blk.lt hi1
 simp only[List.getElem?_toArray,List.getElem?_cons_zero] at x0
 unfold Tok.v at hpk
 simp only[HXB.out.1,HXB.out.2] at hpk
 obtain⟨W2,hW2⟩:∃ W2,w1.alloc (.cells #[.pointer (some ⟨r,0,none⟩)] 80)=W2:=⟨_,rfl⟩
 rw[hW2] at hpk hp1 hi1 hr1 x0 xl
 have HW2:=Lib.hid hW2
 have HPK:=Lib.hid hpk
 have HP1:=Lib.hid hp1
 have HI1:=Lib.hid hi1
 have HR1:=Lib.hid hr1
 clear hb hp hrs bk hp1 hi1 hr1 hpk hr hW2 HPS HO
 go_wp2_with fail
 rw[HW2.out]
 refine HPK.out.mono ?_
 rintro e w2 ⟨rfl,hb2⟩
 have bx:=Blk.new w2 84 #[.int .i64 tkk,.string xb,.int .i64 vk,.int .i64 vn,.string vb,.int .i64 tp]
 have bk2:Below w2.heap.size w2 (w2.alloc (.cells #[.int .i64 tkk,.string xb,.int .i64 vk,.int .i64 vn,.string vb,.int .i64 tp] 84)):=balloc (Below.refl _ _) _
 have hf:CF w (w2.alloc (.cells #[.int .i64 tkk,.string xb,.int .i64 vk,.int .i64 vn,.string vb,.int .i64 tp] 84)) #[.int .i64 0,.string ⟨#[]⟩,.slice none 0 0,.string ⟨#[]⟩,.slice none 0 0,.slice none 0 0,.slice none 0 0,.string ⟨#[]⟩,.int .i64 0,.int .i64 0,.slice none 0 0] w1.heap.size w2.heap.size r (⟨tkk,x,vk,vn,vs,tp⟩::c) vt tkk vk vn tp xb vb:=⟨(HP1.out.keep hb2).keep bk2,(Blk.below HI1.out hb2 (Blk.lt HI1.out)).below bk2 (by have:=hb2.size;omega),bx,(HR1.out.keep hb2).keep bk2,hrB,hbB,Nat.le_trans hbB (Nat.le_trans (Nat.le_of_lt xl) hb2.size)⟩
 have hkd:=HKD.out _ (HGW.out _ (hf.p.b))
 obtain⟨W3,hW3⟩:∃ W3,w2.alloc (.cells #[.int .i64 tkk,.string xb,.int .i64 vk,.int .i64 vn,.string vb,.int .i64 tp] 84)=W3:=⟨_,rfl⟩
 rw[hW3] at hf hkd
 have HW3:=Lib.hid hW3
 have HKD3:=Lib.hid hkd
 have HF3:=Lib.hid hf
 have z0:=hf.k.cell 0
 have z1:=hf.k.cell 1
 have z2:=hf.k.cell 2
 have z3:=hf.k.cell 3
 have z4:=hf.k.cell 4
 have z5:=hf.k.cell 5
 have zl:=hf.k.lt
 simp only[List.getElem?_toArray,List.getElem?_cons_zero,List.getElem?_cons_succ] at z0 z1 z2 z3 z4 z5
 clear bx bk2 hb2 hkd hf hW3 x0 xl HPK HP1 HI1 HR1 HKD HGW HW2
 go_upto_region 4 with fail
 rw[HW3.out]
 go_wp2_with fail
 refine HKD3.out.mono ?_
 rintro e w4 ⟨rfl,hb4⟩
 have hf4:=HF3.out.keep hb4
 have x0:=Blk.cell hf4.i 0
 have xl:=Blk.lt hf4.i
 have pl:=hf4.p.q.lt
 have k0:=hf4.p.q.cell 0
 have y0:=hf4.p.q.frozen 0
 have z1:=hf4.k.cell 1
 have z5:=hf4.k.cell 5
 have zl:=hf4.k.lt
 simp only[List.getElem?_toArray,List.getElem?_cons_zero,List.getElem?_cons_succ] at x0 k0 z1 z5
 have hf5:CF w (w4.setCell ⟨w.heap.size,0,none⟩ (.int .i64 0)) #[.int .i64 0,.string ⟨#[]⟩,.slice none 0 0,.string ⟨#[]⟩,.slice none 0 0,.slice none 0 0,.slice none 0 0,.string ⟨#[]⟩,.int .i64 0,.int .i64 0,.slice none 0 0] w1.heap.size w2.heap.size r (⟨tkk,x,vk,vn,vs,tp⟩::c) vt tkk vk vn tp xb vb:=hf4.store 0 (.int .i64 0)
 have HF5:=Lib.hid hf5
 clear hf4 hf5 hb4 HF3 HKD3 HW3 z0 z2 z3 z4
 have HP5:=Lib.hid HF5.out.p
 have hre:=HRES.out
 subst hre
 have hne1:w.heap.size≠w2.heap.size:=by have:=HF5.out.ht;omega
 clear HTK0 HRES HF5
 go_wp2_with fail
 exact cmd_door HP5.out rfl rfl rfl
set_option maxHeartbeats 8000000 in
set_option maxRecDepth 100000 in
theorem cmd_some {K:Int} (s:ByteArray) (w:World) (t:Tok) (c:List Tok) (hgw:∀ W,Below w.heap.size w W->WordsAt W)
 (hop:∀ W,Below w.heap.size w W->Calls Tryz.prog 40 #[.string s] W fun e w'=>∃ r vt,e=.returned (.pointer (some ⟨r,0,none⟩))/\W.heap.size<=r/\Rs w' r (t::c) vt/\Below W.heap.size W w')
 (hk:kindC t=K) (h0p:0<=t.p) (h1p:t.p+(⟨t.x.toArray⟩:ByteArray).size<=281474976710656)
 (K0:K≠0) (K18:0<=K/\K<=18)
 (fr:Nat) (hfr:(fr:Int)=t.p+(⟨t.x.toArray⟩:ByteArray).size) (hfs:fr<=s.size) (hss:s.size<=281474976710656)
 (pS0:PR Rln) (plS:PlaceOk pS0) (ppS:∀ W,Below w.heap.size w W->Calls Tryz.prog 23 #[.string (s.extract fr s.size)] W (SPost W pS0))
 (pQ0:PR Qry) (plQ:PlaceOk pQ0) (ppQ:∀ W,Below w.heap.size w W->Calls Tryz.prog 25 #[.string (s.extract fr s.size)] W (QPost W pQ0))
 (pB0:PR (List Chg)) (plB:PlaceOk pB0) (ppB:∀ W,Below w.heap.size w W->Calls Tryz.prog 27 #[.string (s.extract fr s.size)] W (BPost W pB0)) :
 Calls Tryz.prog 13 #[.string s] w (CmdPost w (if K=1 then innerP (fr:Int) ⟨[],[]⟩ pS0 fun x => { cmd0 with kind:=1,rel:=x }
 else if K=2∨K=14∨K=15 then innerP (fr:Int) ⟨[],[],[]⟩ pQ0 fun x => { cmd0 with kind:=K,q:=x }
 else if K=4 then innerP (fr:Int) [] pB0 fun x => { cmd0 with kind:=4,b:=x }
 else endC (fieldsP K c))):=by
 have hmf:∀ (fn:Fn) (first cap:Array Value) (w:World),(Instr.makeFunc fn first cap).run Tryz.prog w=.ok (.func fn first cap) w:=fun _ _ _ _=>rfl
 have hps:=PCm.start w
 have ho:=hop _ hps.b
 have HPS:=Lib.hid hps
 have HO:=Lib.hid ho
 have HGW:=Lib.hid hgw
 have HKD:=Lib.hid (fun W hW=>kindOf_any t W hW)
 rw[hk] at HKD
 have hk1:t.k=1:=kindC_one (by rw[hk];exact K0)
 have hK0b:(K == 0)=false:=by simpa using K0
 obtain⟨RES,hRES⟩:∃ RES,(if K=1 then innerP (fr:Int) ⟨[],[]⟩ pS0 fun x => { cmd0 with kind:=1,rel:=x }
  else if K=2∨K=14∨K=15 then innerP (fr:Int) ⟨[],[],[]⟩ pQ0 fun x => { cmd0 with kind:=K,q:=x }
  else if K=4 then innerP (fr:Int) [] pB0 fun x => { cmd0 with kind:=4,b:=x }
  else endC (fieldsP K c))=RES:=⟨_,rfl⟩
 rw[hRES]
 have HRES:=Lib.hid hRES
 have htk0:∀ (W:World) (r:Nat) (vt:Value),Rs W r (t::c) vt->w.heap.size+3<=r->Calls Tryz.prog 43 #[.pointer (some ⟨r,0,none⟩),.int .i64 1,.slice none 0 0] W (PPost (fun t c' v w'=>v=t.v/\Rs w' r c' vt) (w.heap.size+3) [177] W (tk 1 [] (t::c))):=fun W r vt h hB=>take_rs (B:=w.heap.size+3) (Ts:=[177]) h 1 [] _ (tx_nil _) hB (by simp)
 have htt:tk 1 [] (t::c)=.ok t c:=by
  unfold tk
  simp [hk1]
 rw[htt] at htk0
 clear htt
 have HTK0:=Lib.hid htk0
 clear hps ho hop hgw hRES htk0 hk hk1
 obtain⟨tkk,x,vk,vn,vs,tp⟩:=t
 simp only at h0p h1p
 unfold Tok.v at HKD HTK0
 generalize hxb:(⟨x.toArray⟩:ByteArray)=xb at *
 generalize hvb:(⟨vs.toArray⟩:ByteArray)=vb at *
 have HXB:=Lib.hid (And.intro hxb hvb)
 clear hxb hvb
 simp only at HKD
 go_enter_defers Tryz.func13,Tryz.ntmps13
 go_wp2_with fail
 refine HO.out.mono ?_
 rintro e w1 ⟨r,vt,rfl,hr,hrs,hb⟩
 have hp:=HPS.out.keep hb
 have hrB:w.heap.size+3<=r:=by simp at hr;omega
 have bk:Below w1.heap.size w1 (w1.alloc (.cells #[.pointer (some ⟨r,0,none⟩)] 80)):=balloc (Below.refl _ _) _
 have hp1:=hp.keep bk
 have hi1:InB (w1.alloc (.cells #[.pointer (some ⟨r,0,none⟩)] 80)) w1.heap.size r:=Blk.new _ _ _
 have hr1:=hrs.keep bk
 have hpk:=peek_rs hr1
 have hbB:w.heap.size+3<=w1.heap.size:=hp.s
 have x0:=Blk.cell hi1 0
 have xl:=Blk.lt hi1
 simp only[List.getElem?_toArray,List.getElem?_cons_zero] at x0
 unfold Tok.v at hpk
 simp only[HXB.out.1,HXB.out.2] at hpk
 obtain⟨W2,hW2⟩:∃ W2,w1.alloc (.cells #[.pointer (some ⟨r,0,none⟩)] 80)=W2:=⟨_,rfl⟩
 rw[hW2] at hpk hp1 hi1 hr1 x0 xl
 have HW2:=Lib.hid hW2
 have HPK:=Lib.hid hpk
 have HP1:=Lib.hid hp1
 have HI1:=Lib.hid hi1
 have HR1:=Lib.hid hr1
 clear hb hp hrs bk hp1 hi1 hr1 hpk hr hW2 HPS HO
 go_wp2_with fail
 rw[HW2.out]
 refine HPK.out.mono ?_
 rintro e w2 ⟨rfl,hb2⟩
 have bx:=Blk.new w2 84 #[.int .i64 tkk,.string xb,.int .i64 vk,.int .i64 vn,.string vb,.int .i64 tp]
 have bk2:Below w2.heap.size w2 (w2.alloc (.cells #[.int .i64 tkk,.string xb,.int .i64 vk,.int .i64 vn,.string vb,.int .i64 tp] 84)):=balloc (Below.refl _ _) _
 have hf:CF w (w2.alloc (.cells #[.int .i64 tkk,.string xb,.int .i64 vk,.int .i64 vn,.string vb,.int .i64 tp] 84)) #[.int .i64 0,.string ⟨#[]⟩,.slice none 0 0,.string ⟨#[]⟩,.slice none 0 0,.slice none 0 0,.slice none 0 0,.string ⟨#[]⟩,.int .i64 0,.int .i64 0,.slice none 0 0] w1.heap.size w2.heap.size r (⟨tkk,x,vk,vn,vs,tp⟩::c) vt tkk vk vn tp xb vb:=⟨(HP1.out.keep hb2).keep bk2,(Blk.below HI1.out hb2 (Blk.lt HI1.out)).below bk2 (by have:=hb2.size;omega),bx,(HR1.out.keep hb2).keep bk2,hrB,hbB,Nat.le_trans hbB (Nat.le_trans (Nat.le_of_lt xl) hb2.size)⟩
 have hkd:=HKD.out _ (HGW.out _ (hf.p.b))
 obtain⟨W3,hW3⟩:∃ W3,w2.alloc (.cells #[.int .i64 tkk,.string xb,.int .i64 vk,.int .i64 vn,.string vb,.int .i64 tp] 84)=W3:=⟨_,rfl⟩
 rw[hW3] at hf hkd
 have HW3:=Lib.hid hW3
 have HKD3:=Lib.hid hkd
 have HF3:=Lib.hid hf
 have z0:=hf.k.cell 0
 have z1:=hf.k.cell 1
 have z2:=hf.k.cell 2
 have z3:=hf.k.cell 3
 have z4:=hf.k.cell 4
 have z5:=hf.k.cell 5
 have zl:=hf.k.lt
 simp only[List.getElem?_toArray,List.getElem?_cons_zero,List.getElem?_cons_succ] at z0 z1 z2 z3 z4 z5
 clear bx bk2 hb2 hkd hf hW3 x0 xl HPK HP1 HI1 HR1 HKD HGW HW2
 go_upto_region 4 with fail
 rw[HW3.out]
 go_wp2_with fail
 refine HKD3.out.mono ?_
 rintro e w4 ⟨rfl,hb4⟩
 have hf4:=HF3.out.keep hb4
 have x0:=Blk.cell hf4.i 0
 have xl:=Blk.lt hf4.i
 have pl:=hf4.p.q.lt
 have k0:=hf4.p.q.cell 0
 have y0:=hf4.p.q.frozen 0
 have z1:=hf4.k.cell 1
 have z5:=hf4.k.cell 5
 have zl:=hf4.k.lt
 simp only[List.getElem?_toArray,List.getElem?_cons_zero,List.getElem?_cons_succ] at x0 k0 z1 z5
 have hf5:CF w (w4.setCell ⟨w.heap.size,0,none⟩ (.int .i64 K)) #[.int .i64 K,.string ⟨#[]⟩,.slice none 0 0,.string ⟨#[]⟩,.slice none 0 0,.slice none 0 0,.slice none 0 0,.string ⟨#[]⟩,.int .i64 0,.int .i64 0,.slice none 0 0] w1.heap.size w2.heap.size r (⟨tkk,x,vk,vn,vs,tp⟩::c) vt tkk vk vn tp xb vb:=hf4.store 0 (.int .i64 K)
 have HF5:=Lib.hid hf5
 clear hf4 hf5 hb4 HF3 HKD3 HW3 z0 z2 z3 z4
 have htk:=HTK0.out _ r vt HF5.out.rs hrB
 have HTK:=Lib.hid htk
 clear htk HTK0
 have xl5:=Blk.lt HF5.out.i
 go_wp2_with fail
 refine HTK.out.mono ?_
 rintro e w6 ⟨v6,rfl,⟨rfl,hr6⟩,hm6⟩
 have hf6:=HF5.out.take hm6 hr6
 have HF6:=Lib.hid hf6
 clear hm6 hr6 hf6 x0 xl pl k0 y0 z1 z5 zl xl5 HTK HF5
 have x0:=Blk.cell HF6.out.i 0
 have xl:=Blk.lt HF6.out.i
 have pl:=HF6.out.p.q.lt
 have k0:=HF6.out.p.q.cell 0
 have y0:=HF6.out.p.q.frozen 0
 have z1:=HF6.out.k.cell 1
 have z5:=HF6.out.k.cell 5
 have zl:=HF6.out.k.lt
 simp only[List.getElem?_toArray,List.getElem?_cons_zero,List.getElem?_cons_succ] at x0 k0 z1 z5
 have hKs:(K=3∨K=5∨K=6∨K=10∨K=13)∨(K=8∨K=9)∨K=7∨K=11∨K=12∨(K=16∨K=17∨K=18)∨K=1∨(K=2∨K=14∨K=15)∨K=4:=by omega
 clear K0 K18
 rcases hKs with h | h | rfl | rfl | rfl | h | rfl | h | rfl
 ·rcases h with rfl | rfl | rfl | rfl | rfl
  all_goals
   clear plS ppS plQ ppQ plB ppB hfr hfs hss
   have hc:=cname_any (B:=w.heap.size+3) HF6.out.rs hrB
   rcases hq:nmP1 c with ⟨a,e⟩ | ⟨u7,c7⟩
   ·rw[hq] at hc
    have HC:=Lib.hid hc
    have hre:=HRES.out
    simp [fieldsP,endC,bindP,hq] at hre
    subst hre
    clear hc hq HRES
    go_wp2_with fail
    refine HC.out.mono ?_
    rintro e wx ⟨rfl,hm⟩
    have HPX:=Lib.hid (HF6.out.p.mt hm)
    clear hm
    go_wp2_with fail
    exact cmd_door HPX.out rfl rfl rfl
   rw[hq] at hc
   have HC:=Lib.hid hc
   have HQ7:=Lib.hid hq
   clear hc hq
   go_wp2_with fail
   refine HC.out.mono ?_
   rintro e w7 ⟨v7,rfl,⟨rfl,hr7⟩,hm7⟩
   have hf7:=HF6.out.take hm7 hr7
   clear HC HF6 x0 xl pl k0 y0 z1 z5 zl
   have x0:=Blk.cell hf7.i 0
   have xl:=Blk.lt hf7.i
   have pl:=hf7.p.q.lt
   have k7:=hf7.p.q.cell 7
   have y7:=hf7.p.q.frozen 7
   simp only[List.getElem?_toArray,List.getElem?_cons_zero,List.getElem?_cons_succ] at x0 k7
   have mf7:MT 0 [34] w7 (w7.setCell ⟨w.heap.size,7,none⟩ (.string ⟨u7.toArray⟩)):=MT.setCell (MT.refl w7) hf7.p.q (by simp) (Nat.zero_le _) _
   have hg7:CF w (w7.setCell ⟨w.heap.size,7,none⟩ (.string ⟨u7.toArray⟩)) #[_,.string ⟨#[]⟩,.slice none 0 0,.string ⟨#[]⟩,.slice none 0 0,.slice none 0 0,.slice none 0 0,.string ⟨u7.toArray⟩,.int .i64 0,.int .i64 0,.slice none 0 0] w1.heap.size w2.heap.size r c7 vt tkk vk vn tp xb vb:=hf7.store 7 (.string ⟨u7.toArray⟩)
   have HF7:=Lib.hid hg7
   clear hm7 hr7 hf7 mf7 hg7
   have hc:=take_rs (B:=w.heap.size+3) (Ts:=[177]) HF7.out.rs 0 [] _ (tx_nil _) hrB (by simp)
   rcases hq:tk 0 [] c7 with ⟨a,e⟩ | ⟨x9,c9⟩
   ·rw[hq] at hc
    have HC:=Lib.hid hc
    have hre:=HRES.out
    simp [fieldsP,endC,bindP,hq,HQ7.out] at hre
    subst hre
    clear hc hq HRES
    go_wp2_with fail
    refine HC.out.mono ?_
    rintro e wx ⟨rfl,hm⟩
    have HPX:=Lib.hid (HF7.out.p.mt hm)
    clear hm
    go_wp2_with fail
    exact cmd_door HPX.out rfl rfl rfl
   rw[hq] at hc
   have HC:=Lib.hid hc
   have hre:=HRES.out
   simp [fieldsP,endC,bindP,hq,HQ7.out,cmd0] at hre
   subst hre
   clear hc hq HRES
   go_wp2_with fail
   refine HC.out.mono ?_
   rintro e w9 ⟨v9,rfl,⟨rfl,hr9⟩,hm9⟩
   have hf9:=HF7.out.take hm9 hr9
   have HF9:=Lib.hid hf9
   clear hm9 hr9 hf9 HC HF7 x0 xl pl k7 y7
   have x0:=Blk.cell HF9.out.i 0
   have xl:=Blk.lt HF9.out.i
   have pl:=HF9.out.p.q.lt
   have k0:=HF9.out.p.q.cell 0
   have y0:=HF9.out.p.q.frozen 0
   have k1:=HF9.out.p.q.cell 1
   have y1:=HF9.out.p.q.frozen 1
   have k2:=HF9.out.p.q.cell 2
   have y2:=HF9.out.p.q.frozen 2
   have k3:=HF9.out.p.q.cell 3
   have y3:=HF9.out.p.q.frozen 3
   have k4:=HF9.out.p.q.cell 4
   have y4:=HF9.out.p.q.frozen 4
   have k5:=HF9.out.p.q.cell 5
   have y5:=HF9.out.p.q.frozen 5
   have k6:=HF9.out.p.q.cell 6
   have y6:=HF9.out.p.q.frozen 6
   have k7:=HF9.out.p.q.cell 7
   have y7:=HF9.out.p.q.frozen 7
   have k8:=HF9.out.p.q.cell 8
   have y8:=HF9.out.p.q.frozen 8
   have k9:=HF9.out.p.q.cell 9
   have y9:=HF9.out.p.q.frozen 9
   have k10:=HF9.out.p.q.cell 10
   have y10:=HF9.out.p.q.frozen 10
   have ka:=HF9.out.p.a.cell 0
   have yka:=HF9.out.p.a.frozen 0
   have lka:=HF9.out.p.a.lt
   have ke:=HF9.out.p.e.cell 0
   have yke:=HF9.out.p.e.frozen 0
   have lke:=HF9.out.p.e.lt
   simp only[List.getElem?_toArray,List.getElem?_cons_zero,List.getElem?_cons_succ] at x0 k0 k1 k2 k3 k4 k5 k6 k7 k8 k9 k10 ka ke
   go_wp2_with fail
   rw[HF9.out.p.self]
   exact cmd_exit HF9.out.p rfl rfl rfl ⟨_,rfl,⟨_,_,_,_,_,rfl,World.ownsRow_nil _ _ _ _,World.ownsRow_nil _ _ _ _,atoms_nil _ _,chgs_nil _ _,World.ownsRow_nil _ _ _ _⟩,HF9.out.p.b⟩
 ·rcases h with rfl | rfl
  all_goals
   clear plS ppS plQ ppQ plB ppB hfr hfs hss
   have hc:=cnum_any (B:=w.heap.size+3) HF6.out.rs hrB HF6.out.p.s
   rcases hq:numP c with ⟨a,e⟩ | ⟨u7,c7⟩
   ·rw[hq] at hc
    have HC:=Lib.hid hc
    have hre:=HRES.out
    simp [fieldsP,endC,bindP,hq] at hre
    subst hre
    clear hc hq HRES
    go_wp2_with fail
    refine HC.out.mono ?_
    rintro e wx ⟨rfl,hm⟩
    have HPX:=Lib.hid (HF6.out.p.mt hm)
    clear hm
    go_wp2_with fail
    exact cmd_door HPX.out rfl rfl rfl
   rw[hq] at hc
   have HC:=Lib.hid hc
   have HQ7:=Lib.hid hq
   clear hc hq
   go_wp2_with fail
   refine HC.out.mono ?_
   rintro e w7 ⟨v7,rfl,⟨rfl,hr7⟩,hm7⟩
   have hf7:=HF6.out.take hm7 hr7
   clear HC HF6 x0 xl pl k0 y0 z1 z5 zl
   have x0:=Blk.cell hf7.i 0
   have xl:=Blk.lt hf7.i
   have pl:=hf7.p.q.lt
   have k8:=hf7.p.q.cell 8
   have y8:=hf7.p.q.frozen 8
   simp only[List.getElem?_toArray,List.getElem?_cons_zero,List.getElem?_cons_succ] at x0 k8
   have mf7:MT 0 [34] w7 (w7.setCell ⟨w.heap.size,8,none⟩ (.int .i64 u7)):=MT.setCell (MT.refl w7) hf7.p.q (by simp) (Nat.zero_le _) _
   have hg7:CF w (w7.setCell ⟨w.heap.size,8,none⟩ (.int .i64 u7)) #[_,.string ⟨#[]⟩,.slice none 0 0,.string ⟨#[]⟩,.slice none 0 0,.slice none 0 0,.slice none 0 0,.string ⟨#[]⟩,.int .i64 u7,.int .i64 0,.slice none 0 0] w1.heap.size w2.heap.size r c7 vt tkk vk vn tp xb vb:=hf7.store 8 (.int .i64 u7)
   have HF7:=Lib.hid hg7
   clear hm7 hr7 hf7 mf7 hg7
   have hc:=take_rs (B:=w.heap.size+3) (Ts:=[177]) HF7.out.rs 0 [] _ (tx_nil _) hrB (by simp)
   rcases hq:tk 0 [] c7 with ⟨a,e⟩ | ⟨x9,c9⟩
   ·rw[hq] at hc
    have HC:=Lib.hid hc
    have hre:=HRES.out
    simp [fieldsP,endC,bindP,hq,HQ7.out] at hre
    subst hre
    clear hc hq HRES
    go_wp2_with fail
    refine HC.out.mono ?_
    rintro e wx ⟨rfl,hm⟩
    have HPX:=Lib.hid (HF7.out.p.mt hm)
    clear hm
    go_wp2_with fail
    exact cmd_door HPX.out rfl rfl rfl
   rw[hq] at hc
   have HC:=Lib.hid hc
   have hre:=HRES.out
   simp [fieldsP,endC,bindP,hq,HQ7.out,cmd0] at hre
   subst hre
   clear hc hq HRES
   go_wp2_with fail
   refine HC.out.mono ?_
   rintro e w9 ⟨v9,rfl,⟨rfl,hr9⟩,hm9⟩
   have hf9:=HF7.out.take hm9 hr9
   have HF9:=Lib.hid hf9
   clear hm9 hr9 hf9 HC HF7 x0 xl pl k8 y8
   have x0:=Blk.cell HF9.out.i 0
   have xl:=Blk.lt HF9.out.i
   have pl:=HF9.out.p.q.lt
   have k0:=HF9.out.p.q.cell 0
   have y0:=HF9.out.p.q.frozen 0
   have k1:=HF9.out.p.q.cell 1
   have y1:=HF9.out.p.q.frozen 1
   have k2:=HF9.out.p.q.cell 2
   have y2:=HF9.out.p.q.frozen 2
   have k3:=HF9.out.p.q.cell 3
   have y3:=HF9.out.p.q.frozen 3
   have k4:=HF9.out.p.q.cell 4
   have y4:=HF9.out.p.q.frozen 4
   have k5:=HF9.out.p.q.cell 5
   have y5:=HF9.out.p.q.frozen 5
   have k6:=HF9.out.p.q.cell 6
   have y6:=HF9.out.p.q.frozen 6
   have k7:=HF9.out.p.q.cell 7
   have y7:=HF9.out.p.q.frozen 7
   have k8:=HF9.out.p.q.cell 8
   have y8:=HF9.out.p.q.frozen 8
   have k9:=HF9.out.p.q.cell 9
   have y9:=HF9.out.p.q.frozen 9
   have k10:=HF9.out.p.q.cell 10
   have y10:=HF9.out.p.q.frozen 10
   have ka:=HF9.out.p.a.cell 0
   have yka:=HF9.out.p.a.frozen 0
   have lka:=HF9.out.p.a.lt
   have ke:=HF9.out.p.e.cell 0
   have yke:=HF9.out.p.e.frozen 0
   have lke:=HF9.out.p.e.lt
   simp only[List.getElem?_toArray,List.getElem?_cons_zero,List.getElem?_cons_succ] at x0 k0 k1 k2 k3 k4 k5 k6 k7 k8 k9 k10 ka ke
   go_wp2_with fail
   rw[HF9.out.p.self]
   exact cmd_exit HF9.out.p rfl rfl rfl ⟨_,rfl,⟨_,_,_,_,_,rfl,World.ownsRow_nil _ _ _ _,World.ownsRow_nil _ _ _ _,atoms_nil _ _,chgs_nil _ _,World.ownsRow_nil _ _ _ _⟩,HF9.out.p.b⟩
 ·clear plS ppS plQ ppQ plB ppB hfr hfs hss
  have hc:=cnum_any (B:=w.heap.size+3) HF6.out.rs hrB HF6.out.p.s
  rcases hq:numP c with ⟨a,e⟩ | ⟨u7,c7⟩
  ·rw[hq] at hc
   have HC:=Lib.hid hc
   have hre:=HRES.out
   simp [fieldsP,endC,bindP,hq] at hre
   subst hre
   clear hc hq HRES
   go_wp2_with fail
   refine HC.out.mono ?_
   rintro e wx ⟨rfl,hm⟩
   have HPX:=Lib.hid (HF6.out.p.mt hm)
   clear hm
   go_wp2_with fail
   exact cmd_door HPX.out rfl rfl rfl
  rw[hq] at hc
  have HC:=Lib.hid hc
  have HQ7:=Lib.hid hq
  clear hc hq
  go_wp2_with fail
  refine HC.out.mono ?_
  rintro e w7 ⟨v7,rfl,⟨rfl,hr7⟩,hm7⟩
  have hf7:=HF6.out.take hm7 hr7
  clear HC HF6 x0 xl pl k0 y0 z1 z5 zl
  have x0:=Blk.cell hf7.i 0
  have xl:=Blk.lt hf7.i
  have pl:=hf7.p.q.lt
  have k8:=hf7.p.q.cell 8
  have y8:=hf7.p.q.frozen 8
  simp only[List.getElem?_toArray,List.getElem?_cons_zero,List.getElem?_cons_succ] at x0 k8
  have mf7:MT 0 [34] w7 (w7.setCell ⟨w.heap.size,8,none⟩ (.int .i64 u7)):=MT.setCell (MT.refl w7) hf7.p.q (by simp) (Nat.zero_le _) _
  have hg7:CF w (w7.setCell ⟨w.heap.size,8,none⟩ (.int .i64 u7)) #[_,.string ⟨#[]⟩,.slice none 0 0,.string ⟨#[]⟩,.slice none 0 0,.slice none 0 0,.slice none 0 0,.string ⟨#[]⟩,.int .i64 u7,.int .i64 0,.slice none 0 0] w1.heap.size w2.heap.size r c7 vt tkk vk vn tp xb vb:=hf7.store 8 (.int .i64 u7)
  have HF7:=Lib.hid hg7
  clear hm7 hr7 hf7 mf7 hg7
  have hc:=cnum_any (B:=w.heap.size+3) HF7.out.rs hrB HF7.out.p.s
  rcases hq:numP c7 with ⟨a,e⟩ | ⟨u8,c8⟩
  ·rw[hq] at hc
   have HC:=Lib.hid hc
   have hre:=HRES.out
   simp [fieldsP,endC,bindP,hq,HQ7.out] at hre
   subst hre
   clear hc hq HRES
   go_wp2_with fail
   refine HC.out.mono ?_
   rintro e wx ⟨rfl,hm⟩
   have HPX:=Lib.hid (HF7.out.p.mt hm)
   clear hm
   go_wp2_with fail
   exact cmd_door HPX.out rfl rfl rfl
  rw[hq] at hc
  have HC:=Lib.hid hc
  have HQ8:=Lib.hid hq
  clear hc hq
  go_wp2_with fail
  refine HC.out.mono ?_
  rintro e w8 ⟨v8,rfl,⟨rfl,hr8⟩,hm8⟩
  have hf8:=HF7.out.take hm8 hr8
  clear HC HF7 x0 xl pl k8 y8
  have x0:=Blk.cell hf8.i 0
  have xl:=Blk.lt hf8.i
  have pl:=hf8.p.q.lt
  have k9:=hf8.p.q.cell 9
  have y9:=hf8.p.q.frozen 9
  simp only[List.getElem?_toArray,List.getElem?_cons_zero,List.getElem?_cons_succ] at x0 k9
  have mf8:MT 0 [34] w8 (w8.setCell ⟨w.heap.size,9,none⟩ (.int .i64 u8)):=MT.setCell (MT.refl w8) hf8.p.q (by simp) (Nat.zero_le _) _
  have hg8:CF w (w8.setCell ⟨w.heap.size,9,none⟩ (.int .i64 u8)) #[_,.string ⟨#[]⟩,.slice none 0 0,.string ⟨#[]⟩,.slice none 0 0,.slice none 0 0,.slice none 0 0,.string ⟨#[]⟩,.int .i64 u7,.int .i64 u8,.slice none 0 0] w1.heap.size w2.heap.size r c8 vt tkk vk vn tp xb vb:=hf8.store 9 (.int .i64 u8)
  have HF8:=Lib.hid hg8
  clear hm8 hr8 hf8 mf8 hg8
  have hc:=take_rs (B:=w.heap.size+3) (Ts:=[177]) HF8.out.rs 0 [] _ (tx_nil _) hrB (by simp)
  rcases hq:tk 0 [] c8 with ⟨a,e⟩ | ⟨x9,c9⟩
  ·rw[hq] at hc
   have HC:=Lib.hid hc
   have hre:=HRES.out
   simp [fieldsP,endC,bindP,hq,HQ7.out,HQ8.out] at hre
   subst hre
   clear hc hq HRES
   go_wp2_with fail
   refine HC.out.mono ?_
   rintro e wx ⟨rfl,hm⟩
   have HPX:=Lib.hid (HF8.out.p.mt hm)
   clear hm
   go_wp2_with fail
   exact cmd_door HPX.out rfl rfl rfl
  rw[hq] at hc
  have HC:=Lib.hid hc
  have hre:=HRES.out
  simp [fieldsP,endC,bindP,hq,HQ7.out,HQ8.out,cmd0] at hre
  subst hre
  clear hc hq HRES
  go_wp2_with fail
  refine HC.out.mono ?_
  rintro e w9 ⟨v9,rfl,⟨rfl,hr9⟩,hm9⟩
  have hf9:=HF8.out.take hm9 hr9
  have HF9:=Lib.hid hf9
  clear hm9 hr9 hf9 HC HF8 x0 xl pl k9 y9
  have x0:=Blk.cell HF9.out.i 0
  have xl:=Blk.lt HF9.out.i
  have pl:=HF9.out.p.q.lt
  have k0:=HF9.out.p.q.cell 0
  have y0:=HF9.out.p.q.frozen 0
  have k1:=HF9.out.p.q.cell 1
  have y1:=HF9.out.p.q.frozen 1
  have k2:=HF9.out.p.q.cell 2
  have y2:=HF9.out.p.q.frozen 2
  have k3:=HF9.out.p.q.cell 3
  have y3:=HF9.out.p.q.frozen 3
  have k4:=HF9.out.p.q.cell 4
  have y4:=HF9.out.p.q.frozen 4
  have k5:=HF9.out.p.q.cell 5
  have y5:=HF9.out.p.q.frozen 5
  have k6:=HF9.out.p.q.cell 6
  have y6:=HF9.out.p.q.frozen 6
  have k7:=HF9.out.p.q.cell 7
  have y7:=HF9.out.p.q.frozen 7
  have k8:=HF9.out.p.q.cell 8
  have y8:=HF9.out.p.q.frozen 8
  have k9:=HF9.out.p.q.cell 9
  have y9:=HF9.out.p.q.frozen 9
  have k10:=HF9.out.p.q.cell 10
  have y10:=HF9.out.p.q.frozen 10
  have ka:=HF9.out.p.a.cell 0
  have yka:=HF9.out.p.a.frozen 0
  have lka:=HF9.out.p.a.lt
  have ke:=HF9.out.p.e.cell 0
  have yke:=HF9.out.p.e.frozen 0
  have lke:=HF9.out.p.e.lt
  simp only[List.getElem?_toArray,List.getElem?_cons_zero,List.getElem?_cons_succ] at x0 k0 k1 k2 k3 k4 k5 k6 k7 k8 k9 k10 ka ke
  go_wp2_with fail
  rw[HF9.out.p.self]
  exact cmd_exit HF9.out.p rfl rfl rfl ⟨_,rfl,⟨_,_,_,_,_,rfl,World.ownsRow_nil _ _ _ _,World.ownsRow_nil _ _ _ _,atoms_nil _ _,chgs_nil _ _,World.ownsRow_nil _ _ _ _⟩,HF9.out.p.b⟩
 ·clear plS ppS plQ ppQ plB ppB hfr hfs hss
  have hc:=cname_any (B:=w.heap.size+3) HF6.out.rs hrB
  rcases hq:nmP1 c with ⟨a,e⟩ | ⟨u7,c7⟩
  ·rw[hq] at hc
   have HC:=Lib.hid hc
   have hre:=HRES.out
   simp [fieldsP,endC,bindP,hq] at hre
   subst hre
   clear hc hq HRES
   go_wp2_with fail
   refine HC.out.mono ?_
   rintro e wx ⟨rfl,hm⟩
   have HPX:=Lib.hid (HF6.out.p.mt hm)
   clear hm
   go_wp2_with fail
   exact cmd_door HPX.out rfl rfl rfl
  rw[hq] at hc
  have HC:=Lib.hid hc
  have HQ7:=Lib.hid hq
  clear hc hq
  go_wp2_with fail
  refine HC.out.mono ?_
  rintro e w7 ⟨v7,rfl,⟨rfl,hr7⟩,hm7⟩
  have hf7:=HF6.out.take hm7 hr7
  clear HC HF6 x0 xl pl k0 y0 z1 z5 zl
  have x0:=Blk.cell hf7.i 0
  have xl:=Blk.lt hf7.i
  have pl:=hf7.p.q.lt
  have k7:=hf7.p.q.cell 7
  have y7:=hf7.p.q.frozen 7
  simp only[List.getElem?_toArray,List.getElem?_cons_zero,List.getElem?_cons_succ] at x0 k7
  have mf7:MT 0 [34] w7 (w7.setCell ⟨w.heap.size,7,none⟩ (.string ⟨u7.toArray⟩)):=MT.setCell (MT.refl w7) hf7.p.q (by simp) (Nat.zero_le _) _
  have hg7:CF w (w7.setCell ⟨w.heap.size,7,none⟩ (.string ⟨u7.toArray⟩)) #[_,.string ⟨#[]⟩,.slice none 0 0,.string ⟨#[]⟩,.slice none 0 0,.slice none 0 0,.slice none 0 0,.string ⟨u7.toArray⟩,.int .i64 0,.int .i64 0,.slice none 0 0] w1.heap.size w2.heap.size r c7 vt tkk vk vn tp xb vb:=hf7.store 7 (.string ⟨u7.toArray⟩)
  have HF7:=Lib.hid hg7
  clear hm7 hr7 hf7 mf7 hg7
  have hc:=cnum_any (B:=w.heap.size+3) HF7.out.rs hrB HF7.out.p.s
  rcases hq:numP c7 with ⟨a,e⟩ | ⟨u8,c8⟩
  ·rw[hq] at hc
   have HC:=Lib.hid hc
   have hre:=HRES.out
   simp [fieldsP,endC,bindP,hq,HQ7.out] at hre
   subst hre
   clear hc hq HRES
   go_wp2_with fail
   refine HC.out.mono ?_
   rintro e wx ⟨rfl,hm⟩
   have HPX:=Lib.hid (HF7.out.p.mt hm)
   clear hm
   go_wp2_with fail
   exact cmd_door HPX.out rfl rfl rfl
  rw[hq] at hc
  have HC:=Lib.hid hc
  have HQ8:=Lib.hid hq
  clear hc hq
  go_wp2_with fail
  refine HC.out.mono ?_
  rintro e w8 ⟨v8,rfl,⟨rfl,hr8⟩,hm8⟩
  have hf8:=HF7.out.take hm8 hr8
  clear HC HF7 x0 xl pl k7 y7
  have x0:=Blk.cell hf8.i 0
  have xl:=Blk.lt hf8.i
  have pl:=hf8.p.q.lt
  have k9:=hf8.p.q.cell 9
  have y9:=hf8.p.q.frozen 9
  simp only[List.getElem?_toArray,List.getElem?_cons_zero,List.getElem?_cons_succ] at x0 k9
  have mf8:MT 0 [34] w8 (w8.setCell ⟨w.heap.size,9,none⟩ (.int .i64 u8)):=MT.setCell (MT.refl w8) hf8.p.q (by simp) (Nat.zero_le _) _
  have hg8:CF w (w8.setCell ⟨w.heap.size,9,none⟩ (.int .i64 u8)) #[_,.string ⟨#[]⟩,.slice none 0 0,.string ⟨#[]⟩,.slice none 0 0,.slice none 0 0,.slice none 0 0,.string ⟨u7.toArray⟩,.int .i64 0,.int .i64 u8,.slice none 0 0] w1.heap.size w2.heap.size r c8 vt tkk vk vn tp xb vb:=hf8.store 9 (.int .i64 u8)
  have HF8:=Lib.hid hg8
  clear hm8 hr8 hf8 mf8 hg8
  have hc:=take_rs (B:=w.heap.size+3) (Ts:=[177]) HF8.out.rs 0 [] _ (tx_nil _) hrB (by simp)
  rcases hq:tk 0 [] c8 with ⟨a,e⟩ | ⟨x9,c9⟩
  ·rw[hq] at hc
   have HC:=Lib.hid hc
   have hre:=HRES.out
   simp [fieldsP,endC,bindP,hq,HQ7.out,HQ8.out] at hre
   subst hre
   clear hc hq HRES
   go_wp2_with fail
   refine HC.out.mono ?_
   rintro e wx ⟨rfl,hm⟩
   have HPX:=Lib.hid (HF8.out.p.mt hm)
   clear hm
   go_wp2_with fail
   exact cmd_door HPX.out rfl rfl rfl
  rw[hq] at hc
  have HC:=Lib.hid hc
  have hre:=HRES.out
  simp [fieldsP,endC,bindP,hq,HQ7.out,HQ8.out,cmd0] at hre
  subst hre
  clear hc hq HRES
  go_wp2_with fail
  refine HC.out.mono ?_
  rintro e w9 ⟨v9,rfl,⟨rfl,hr9⟩,hm9⟩
  have hf9:=HF8.out.take hm9 hr9
  have HF9:=Lib.hid hf9
  clear hm9 hr9 hf9 HC HF8 x0 xl pl k9 y9
  have x0:=Blk.cell HF9.out.i 0
  have xl:=Blk.lt HF9.out.i
  have pl:=HF9.out.p.q.lt
  have k0:=HF9.out.p.q.cell 0
  have y0:=HF9.out.p.q.frozen 0
  have k1:=HF9.out.p.q.cell 1
  have y1:=HF9.out.p.q.frozen 1
  have k2:=HF9.out.p.q.cell 2
  have y2:=HF9.out.p.q.frozen 2
  have k3:=HF9.out.p.q.cell 3
  have y3:=HF9.out.p.q.frozen 3
  have k4:=HF9.out.p.q.cell 4
  have y4:=HF9.out.p.q.frozen 4
  have k5:=HF9.out.p.q.cell 5
  have y5:=HF9.out.p.q.frozen 5
  have k6:=HF9.out.p.q.cell 6
  have y6:=HF9.out.p.q.frozen 6
  have k7:=HF9.out.p.q.cell 7
  have y7:=HF9.out.p.q.frozen 7
  have k8:=HF9.out.p.q.cell 8
  have y8:=HF9.out.p.q.frozen 8
  have k9:=HF9.out.p.q.cell 9
  have y9:=HF9.out.p.q.frozen 9
  have k10:=HF9.out.p.q.cell 10
  have y10:=HF9.out.p.q.frozen 10
  have ka:=HF9.out.p.a.cell 0
  have yka:=HF9.out.p.a.frozen 0
  have lka:=HF9.out.p.a.lt
  have ke:=HF9.out.p.e.cell 0
  have yke:=HF9.out.p.e.frozen 0
  have lke:=HF9.out.p.e.lt
  simp only[List.getElem?_toArray,List.getElem?_cons_zero,List.getElem?_cons_succ] at x0 k0 k1 k2 k3 k4 k5 k6 k7 k8 k9 k10 ka ke
  go_wp2_with fail
  rw[HF9.out.p.self]
  exact cmd_exit HF9.out.p rfl rfl rfl ⟨_,rfl,⟨_,_,_,_,_,rfl,World.ownsRow_nil _ _ _ _,World.ownsRow_nil _ _ _ _,atoms_nil _ _,chgs_nil _ _,World.ownsRow_nil _ _ _ _⟩,HF9.out.p.b⟩
 ·clear plS ppS plQ ppQ plB ppB hfr hfs hss
  have hc:=cname_any (B:=w.heap.size+3) HF6.out.rs hrB
  rcases hq:nmP1 c with ⟨a,e⟩ | ⟨u7,c7⟩
  ·rw[hq] at hc
   have HC:=Lib.hid hc
   have hre:=HRES.out
   simp [fieldsP,endC,bindP,hq] at hre
   subst hre
   clear hc hq HRES
   go_wp2_with fail
   refine HC.out.mono ?_
   rintro e wx ⟨rfl,hm⟩
   have HPX:=Lib.hid (HF6.out.p.mt hm)
   clear hm
   go_wp2_with fail
   exact cmd_door HPX.out rfl rfl rfl
  rw[hq] at hc
  have HC:=Lib.hid hc
  have HQ7:=Lib.hid hq
  clear hc hq
  go_wp2_with fail
  refine HC.out.mono ?_
  rintro e w7 ⟨v7,rfl,⟨rfl,hr7⟩,hm7⟩
  have hf7:=HF6.out.take hm7 hr7
  clear HC HF6 x0 xl pl k0 y0 z1 z5 zl
  have x0:=Blk.cell hf7.i 0
  have xl:=Blk.lt hf7.i
  have pl:=hf7.p.q.lt
  have k7:=hf7.p.q.cell 7
  have y7:=hf7.p.q.frozen 7
  simp only[List.getElem?_toArray,List.getElem?_cons_zero,List.getElem?_cons_succ] at x0 k7
  have mf7:MT 0 [34] w7 (w7.setCell ⟨w.heap.size,7,none⟩ (.string ⟨u7.toArray⟩)):=MT.setCell (MT.refl w7) hf7.p.q (by simp) (Nat.zero_le _) _
  have hg7:CF w (w7.setCell ⟨w.heap.size,7,none⟩ (.string ⟨u7.toArray⟩)) #[_,.string ⟨#[]⟩,.slice none 0 0,.string ⟨#[]⟩,.slice none 0 0,.slice none 0 0,.slice none 0 0,.string ⟨u7.toArray⟩,.int .i64 0,.int .i64 0,.slice none 0 0] w1.heap.size w2.heap.size r c7 vt tkk vk vn tp xb vb:=hf7.store 7 (.string ⟨u7.toArray⟩)
  have HF7:=Lib.hid hg7
  clear hm7 hr7 hf7 mf7 hg7
  have hc:=cVals_any (B:=w.heap.size+3) HF7.out.i HF7.out.rs hrB HF7.out.p.s
  rcases hq:listP litP c7 with ⟨a,e⟩ | ⟨u8,c8⟩
  ·rw[hq] at hc
   have HC:=Lib.hid hc
   have hre:=HRES.out
   simp [fieldsP,endC,bindP,hq,HQ7.out] at hre
   subst hre
   clear hc hq HRES
   go_wp2_with fail
   refine HC.out.mono ?_
   rintro e wx ⟨rfl,hm⟩
   have HPX:=Lib.hid (HF7.out.p.mt hm)
   clear hm
   go_wp2_with fail
   exact cmd_door HPX.out rfl rfl rfl
  rw[hq] at hc
  have HC:=Lib.hid hc
  have HQ8:=Lib.hid hq
  clear hc hq
  go_wp2_with fail
  refine HC.out.mono ?_
  rintro e w8 ⟨v8,rfl,⟨ho,_,hr8⟩,hm8⟩
  obtain⟨ad,cap,rfl⟩:=own_sl ho
  have HO8:=Lib.hid (World.ownsRow.low ho (base':=w.heap.size) (by have:=HF7.out.p.s;omega))
  have hf8:=HF7.out.take hm8 hr8
  clear HC HF7 x0 xl pl k7 y7
  have x0:=Blk.cell hf8.i 0
  have xl:=Blk.lt hf8.i
  have pl:=hf8.p.q.lt
  have k10:=hf8.p.q.cell 10
  have y10:=hf8.p.q.frozen 10
  simp only[List.getElem?_toArray,List.getElem?_cons_zero,List.getElem?_cons_succ] at x0 k10
  have mf8:MT 0 [34] w8 (w8.setCell ⟨w.heap.size,10,none⟩ (.slice ad u8.length cap)):=MT.setCell (MT.refl w8) hf8.p.q (by simp) (Nat.zero_le _) _
  have hg8:CF w (w8.setCell ⟨w.heap.size,10,none⟩ (.slice ad u8.length cap)) #[_,.string ⟨#[]⟩,.slice none 0 0,.string ⟨#[]⟩,.slice none 0 0,.slice none 0 0,.slice none 0 0,.string ⟨u7.toArray⟩,.int .i64 0,.int .i64 0,.slice ad u8.length cap] w1.heap.size w2.heap.size r c8 vt tkk vk vn tp xb vb:=hf8.store 10 (.slice ad u8.length cap)
  have HF8:=Lib.hid hg8
  have HO8:=Lib.hid (mf8.ownsRow HO8.out (by decide))
  clear hm8 hr8 hf8 mf8 hg8 ho
  have hc:=take_rs (B:=w.heap.size+3) (Ts:=[177]) HF8.out.rs 0 [] _ (tx_nil _) hrB (by simp)
  rcases hq:tk 0 [] c8 with ⟨a,e⟩ | ⟨x9,c9⟩
  ·rw[hq] at hc
   have HC:=Lib.hid hc
   have hre:=HRES.out
   simp [fieldsP,endC,bindP,hq,HQ7.out,HQ8.out] at hre
   subst hre
   clear hc hq HRES
   go_wp2_with fail
   refine HC.out.mono ?_
   rintro e wx ⟨rfl,hm⟩
   have HPX:=Lib.hid (HF8.out.p.mt hm)
   clear hm
   go_wp2_with fail
   exact cmd_door HPX.out rfl rfl rfl
  rw[hq] at hc
  have HC:=Lib.hid hc
  have hre:=HRES.out
  simp [fieldsP,endC,bindP,hq,HQ7.out,HQ8.out,cmd0] at hre
  subst hre
  clear hc hq HRES
  go_wp2_with fail
  refine HC.out.mono ?_
  rintro e w9 ⟨v9,rfl,⟨rfl,hr9⟩,hm9⟩
  have hf9:=HF8.out.take hm9 hr9
  have HF9:=Lib.hid hf9
  have HOW:=Lib.hid (hm9.ownsRow HO8.out (by decide))
  clear hm9 hr9 hf9 HC HF8 x0 xl pl k10 y10
  have x0:=Blk.cell HF9.out.i 0
  have xl:=Blk.lt HF9.out.i
  have pl:=HF9.out.p.q.lt
  have k0:=HF9.out.p.q.cell 0
  have y0:=HF9.out.p.q.frozen 0
  have k1:=HF9.out.p.q.cell 1
  have y1:=HF9.out.p.q.frozen 1
  have k2:=HF9.out.p.q.cell 2
  have y2:=HF9.out.p.q.frozen 2
  have k3:=HF9.out.p.q.cell 3
  have y3:=HF9.out.p.q.frozen 3
  have k4:=HF9.out.p.q.cell 4
  have y4:=HF9.out.p.q.frozen 4
  have k5:=HF9.out.p.q.cell 5
  have y5:=HF9.out.p.q.frozen 5
  have k6:=HF9.out.p.q.cell 6
  have y6:=HF9.out.p.q.frozen 6
  have k7:=HF9.out.p.q.cell 7
  have y7:=HF9.out.p.q.frozen 7
  have k8:=HF9.out.p.q.cell 8
  have y8:=HF9.out.p.q.frozen 8
  have k9:=HF9.out.p.q.cell 9
  have y9:=HF9.out.p.q.frozen 9
  have k10:=HF9.out.p.q.cell 10
  have y10:=HF9.out.p.q.frozen 10
  have ka:=HF9.out.p.a.cell 0
  have yka:=HF9.out.p.a.frozen 0
  have lka:=HF9.out.p.a.lt
  have ke:=HF9.out.p.e.cell 0
  have yke:=HF9.out.p.e.frozen 0
  have lke:=HF9.out.p.e.lt
  simp only[List.getElem?_toArray,List.getElem?_cons_zero,List.getElem?_cons_succ] at x0 k0 k1 k2 k3 k4 k5 k6 k7 k8 k9 k10 ka ke
  go_wp2_with fail
  rw[HF9.out.p.self]
  exact cmd_exit HF9.out.p rfl rfl rfl ⟨_,rfl,⟨_,_,_,_,_,rfl,World.ownsRow_nil _ _ _ _,World.ownsRow_nil _ _ _ _,atoms_nil _ _,chgs_nil _ _,HOW.out⟩,HF9.out.p.b⟩
 ·rcases h with rfl | rfl | rfl
  all_goals
   clear plS ppS plQ ppQ plB ppB hfr hfs hss
   have hc:=take_rs (B:=w.heap.size+3) (Ts:=[177]) HF6.out.rs 0 [] _ (tx_nil _) hrB (by simp)
   rcases hq:tk 0 [] c with ⟨a,e⟩ | ⟨x9,c9⟩
   ·rw[hq] at hc
    have HC:=Lib.hid hc
    have hre:=HRES.out
    simp [fieldsP,endC,bindP,hq] at hre
    subst hre
    clear hc hq HRES
    go_wp2_with fail
    refine HC.out.mono ?_
    rintro e wx ⟨rfl,hm⟩
    have HPX:=Lib.hid (HF6.out.p.mt hm)
    clear hm
    go_wp2_with fail
    exact cmd_door HPX.out rfl rfl rfl
   rw[hq] at hc
   have HC:=Lib.hid hc
   have hre:=HRES.out
   simp [fieldsP,endC,bindP,hq,cmd0] at hre
   subst hre
   clear hc hq HRES
   go_wp2_with fail
   refine HC.out.mono ?_
   rintro e w9 ⟨v9,rfl,⟨rfl,hr9⟩,hm9⟩
   have hf9:=HF6.out.take hm9 hr9
   have HF9:=Lib.hid hf9
   clear hm9 hr9 hf9 HC HF6 x0 xl pl k0 y0 z1 z5 zl
   have x0:=Blk.cell HF9.out.i 0
   have xl:=Blk.lt HF9.out.i
   have pl:=HF9.out.p.q.lt
   have k0:=HF9.out.p.q.cell 0
   have y0:=HF9.out.p.q.frozen 0
   have k1:=HF9.out.p.q.cell 1
   have y1:=HF9.out.p.q.frozen 1
   have k2:=HF9.out.p.q.cell 2
   have y2:=HF9.out.p.q.frozen 2
   have k3:=HF9.out.p.q.cell 3
   have y3:=HF9.out.p.q.frozen 3
   have k4:=HF9.out.p.q.cell 4
   have y4:=HF9.out.p.q.frozen 4
   have k5:=HF9.out.p.q.cell 5
   have y5:=HF9.out.p.q.frozen 5
   have k6:=HF9.out.p.q.cell 6
   have y6:=HF9.out.p.q.frozen 6
   have k7:=HF9.out.p.q.cell 7
   have y7:=HF9.out.p.q.frozen 7
   have k8:=HF9.out.p.q.cell 8
   have y8:=HF9.out.p.q.frozen 8
   have k9:=HF9.out.p.q.cell 9
   have y9:=HF9.out.p.q.frozen 9
   have k10:=HF9.out.p.q.cell 10
   have y10:=HF9.out.p.q.frozen 10
   have ka:=HF9.out.p.a.cell 0
   have yka:=HF9.out.p.a.frozen 0
   have lka:=HF9.out.p.a.lt
   have ke:=HF9.out.p.e.cell 0
   have yke:=HF9.out.p.e.frozen 0
   have lke:=HF9.out.p.e.lt
   simp only[List.getElem?_toArray,List.getElem?_cons_zero,List.getElem?_cons_succ] at x0 k0 k1 k2 k3 k4 k5 k6 k7 k8 k9 k10 ka ke
   go_wp2_with fail
   rw[HF9.out.p.self]
   exact cmd_exit HF9.out.p rfl rfl rfl ⟨_,rfl,⟨_,_,_,_,_,rfl,World.ownsRow_nil _ _ _ _,World.ownsRow_nil _ _ _ _,atoms_nil _ _,chgs_nil _ _,World.ownsRow_nil _ _ _ _⟩,HF9.out.p.b⟩
 ·have hin:=innS_any s fr _ pS0 hfs hss plS (fun W hW=>ppS W (HF6.out.p.b.trans (hW.mono (by have:=HF6.out.p.s;omega))))
  rw[hfr] at hin
  have HIN:=Lib.hid hin
  have HFR:=Lib.hid hfr
  have hre0:=HRES.out
  simp only[if_true,reduceIte,Int.reduceEq,or_self] at hre0
  have HRE:=Lib.hid hre0
  clear hin plS ppS plQ ppQ plB ppB hfs hss hfr hre0 HRES
  go_wp2_with fail
  refine HIN.out.mono ?_
  rintro e w7 hin
  rw[<-HFR.out] at hin
  rcases inn_split hin _ with ⟨a,e0,rfl,hre,hb7⟩ | ⟨v,x7,rfl,hR,hre,hb7⟩
  ·have hr2:=HRE.out.symm.trans hre
   subst hr2
   have HPX:=Lib.hid (HF6.out.p.keep hb7)
   clear HRE hre hin HIN hb7
   go_wp2_with fail
   exact cmd_door HPX.out rfl rfl rfl
  have hr2:=HRE.out.symm.trans hre
  subst hr2
  clear HRE hre hin HIN
  obtain⟨cv,rfl,ho⟩:=hR
  obtain⟨ad,cap,rfl⟩:=own_sl ho
  have hf7:=HF6.out.keep hb7
  have hsz:w.heap.size<=w6.heap.size:=by have:=HF6.out.p.s;omega
  clear hb7 HF6 x0 xl pl k0 y0 z1 z5 zl
  have mm1:MT 0 [34] w7 (w7.setCell ⟨w.heap.size,1,none⟩ (.string ⟨x7.name.toArray⟩)):=MT.setCell (MT.refl w7) hf7.p.q (by simp) (Nat.zero_le _) _
  have hh1:CF w (w7.setCell ⟨w.heap.size,1,none⟩ (.string ⟨x7.name.toArray⟩)) #[_,.string ⟨x7.name.toArray⟩,.slice none 0 0,.string ⟨#[]⟩,.slice none 0 0,.slice none 0 0,.slice none 0 0,.string ⟨#[]⟩,.int .i64 0,.int .i64 0,.slice none 0 0] w1.heap.size w2.heap.size r c vt tkk vk vn tp xb vb:=hf7.store 1 (.string ⟨x7.name.toArray⟩)
  have mm2:MT 0 [34] w7 ((w7.setCell ⟨w.heap.size,1,none⟩ (.string ⟨x7.name.toArray⟩)).setCell ⟨w.heap.size,2,none⟩ (.slice ad x7.cols.length cap)):=MT.setCell (mm1) hh1.p.q (by simp) (Nat.zero_le _) _
  have hh2:CF w ((w7.setCell ⟨w.heap.size,1,none⟩ (.string ⟨x7.name.toArray⟩)).setCell ⟨w.heap.size,2,none⟩ (.slice ad x7.cols.length cap)) #[_,.string ⟨x7.name.toArray⟩,.slice ad x7.cols.length cap,.string ⟨#[]⟩,.slice none 0 0,.slice none 0 0,.slice none 0 0,.string ⟨#[]⟩,.int .i64 0,.int .i64 0,.slice none 0 0] w1.heap.size w2.heap.size r c vt tkk vk vn tp xb vb:=hh1.store 2 (.slice ad x7.cols.length cap)
  have HMS:=Lib.hid (And.intro mm2 (And.intro ho hsz))
  have HF9:=Lib.hid hh2
  have x0:=Blk.cell hf7.i 0
  have xl:=Blk.lt hf7.i
  have pl:=hf7.p.q.lt
  have k0:=hf7.p.q.cell 0
  have y0:=hf7.p.q.frozen 0
  have k1:=hf7.p.q.cell 1
  have y1:=hf7.p.q.frozen 1
  have k2:=hf7.p.q.cell 2
  have y2:=hf7.p.q.frozen 2
  have k3:=hf7.p.q.cell 3
  have y3:=hf7.p.q.frozen 3
  have k4:=hf7.p.q.cell 4
  have y4:=hf7.p.q.frozen 4
  have k5:=hf7.p.q.cell 5
  have y5:=hf7.p.q.frozen 5
  have k6:=hf7.p.q.cell 6
  have y6:=hf7.p.q.frozen 6
  have k7:=hf7.p.q.cell 7
  have y7:=hf7.p.q.frozen 7
  have k8:=hf7.p.q.cell 8
  have y8:=hf7.p.q.frozen 8
  have k9:=hf7.p.q.cell 9
  have y9:=hf7.p.q.frozen 9
  have k10:=hf7.p.q.cell 10
  have y10:=hf7.p.q.frozen 10
  have ka:=hf7.p.a.cell 0
  have yka:=hf7.p.a.frozen 0
  have lka:=hf7.p.a.lt
  have ke:=hf7.p.e.cell 0
  have yke:=hf7.p.e.frozen 0
  have lke:=hf7.p.e.lt
  simp only[List.getElem?_toArray,List.getElem?_cons_zero,List.getElem?_cons_succ] at x0 k0 k1 k2 k3 k4 k5 k6 k7 k8 k9 k10 ka ke
  clear hf7 ho hsz mm1 hh1 mm2 hh2
  go_wp2_with fail
  rw[HF9.out.p.self]
  exact cmd_exit HF9.out.p rfl rfl rfl ⟨_,rfl,⟨_,_,_,_,_,rfl,(HMS.out.1.ownsRow (World.ownsRow.low HMS.out.2.1 HMS.out.2.2) (by decide)),World.ownsRow_nil _ _ _ _,atoms_nil _ _,chgs_nil _ _,World.ownsRow_nil _ _ _ _⟩,HF9.out.p.b⟩
 ·rcases h with rfl | rfl | rfl
  all_goals
   have hin:=innQ_any s fr _ pQ0 hfs hss plQ (fun W hW=>ppQ W (HF6.out.p.b.trans (hW.mono (by have:=HF6.out.p.s;omega))))
   rw[hfr] at hin
   have HIN:=Lib.hid hin
   have HFR:=Lib.hid hfr
   have hre0:=HRES.out
   simp only[if_true,reduceIte,Int.reduceEq,or_true,or_self,or_false] at hre0
   have HRE:=Lib.hid hre0
   clear hin plS ppS plQ ppQ plB ppB hfs hss hfr hre0 HRES
   go_wp2_with fail
   refine HIN.out.mono ?_
   rintro e w7 hin
   rw[<-HFR.out] at hin
   rcases inn_split hin _ with ⟨a,e0,rfl,hre,hb7⟩ | ⟨v,x7,rfl,hR,hre,hb7⟩
   ·have hr2:=HRE.out.symm.trans hre
    subst hr2
    have HPX:=Lib.hid (HF6.out.p.keep hb7)
    clear HRE hre hin HIN hb7
    go_wp2_with fail
    exact cmd_door HPX.out rfl rfl rfl
   have hr2:=HRE.out.symm.trans hre
   subst hr2
   clear HRE hre hin HIN
   obtain⟨hv,av,rfl,ho,ho2⟩:=hR
   obtain⟨ad,cap,rfl⟩:=own_sl ho
   obtain⟨ad2,cap2,rfl⟩:=atoms_sl ho2
   have hf7:=HF6.out.keep hb7
   have hsz:w.heap.size<=w6.heap.size:=by have:=HF6.out.p.s;omega
   clear hb7 HF6 x0 xl pl k0 y0 z1 z5 zl
   have mm3:MT 0 [34] w7 (w7.setCell ⟨w.heap.size,3,none⟩ (.string ⟨x7.name.toArray⟩)):=MT.setCell (MT.refl w7) hf7.p.q (by simp) (Nat.zero_le _) _
   have hh3:CF w (w7.setCell ⟨w.heap.size,3,none⟩ (.string ⟨x7.name.toArray⟩)) #[_,.string ⟨#[]⟩,.slice none 0 0,.string ⟨x7.name.toArray⟩,.slice none 0 0,.slice none 0 0,.slice none 0 0,.string ⟨#[]⟩,.int .i64 0,.int .i64 0,.slice none 0 0] w1.heap.size w2.heap.size r c vt tkk vk vn tp xb vb:=hf7.store 3 (.string ⟨x7.name.toArray⟩)
   have mm4:MT 0 [34] w7 ((w7.setCell ⟨w.heap.size,3,none⟩ (.string ⟨x7.name.toArray⟩)).setCell ⟨w.heap.size,4,none⟩ (.slice ad x7.head.length cap)):=MT.setCell (mm3) hh3.p.q (by simp) (Nat.zero_le _) _
   have hh4:CF w ((w7.setCell ⟨w.heap.size,3,none⟩ (.string ⟨x7.name.toArray⟩)).setCell ⟨w.heap.size,4,none⟩ (.slice ad x7.head.length cap)) #[_,.string ⟨#[]⟩,.slice none 0 0,.string ⟨x7.name.toArray⟩,.slice ad x7.head.length cap,.slice none 0 0,.slice none 0 0,.string ⟨#[]⟩,.int .i64 0,.int .i64 0,.slice none 0 0] w1.heap.size w2.heap.size r c vt tkk vk vn tp xb vb:=hh3.store 4 (.slice ad x7.head.length cap)
   have mm5:MT 0 [34] w7 (((w7.setCell ⟨w.heap.size,3,none⟩ (.string ⟨x7.name.toArray⟩)).setCell ⟨w.heap.size,4,none⟩ (.slice ad x7.head.length cap)).setCell ⟨w.heap.size,5,none⟩ (.slice ad2 x7.atoms.length cap2)):=MT.setCell (mm4) hh4.p.q (by simp) (Nat.zero_le _) _
   have hh5:CF w (((w7.setCell ⟨w.heap.size,3,none⟩ (.string ⟨x7.name.toArray⟩)).setCell ⟨w.heap.size,4,none⟩ (.slice ad x7.head.length cap)).setCell ⟨w.heap.size,5,none⟩ (.slice ad2 x7.atoms.length cap2)) #[_,.string ⟨#[]⟩,.slice none 0 0,.string ⟨x7.name.toArray⟩,.slice ad x7.head.length cap,.slice ad2 x7.atoms.length cap2,.slice none 0 0,.string ⟨#[]⟩,.int .i64 0,.int .i64 0,.slice none 0 0] w1.heap.size w2.heap.size r c vt tkk vk vn tp xb vb:=hh4.store 5 (.slice ad2 x7.atoms.length cap2)
   have HMS:=Lib.hid (And.intro mm5 (And.intro ho (And.intro hsz ho2)))
   have HF9:=Lib.hid hh5
   have x0:=Blk.cell hf7.i 0
   have xl:=Blk.lt hf7.i
   have pl:=hf7.p.q.lt
   have k0:=hf7.p.q.cell 0
   have y0:=hf7.p.q.frozen 0
   have k1:=hf7.p.q.cell 1
   have y1:=hf7.p.q.frozen 1
   have k2:=hf7.p.q.cell 2
   have y2:=hf7.p.q.frozen 2
   have k3:=hf7.p.q.cell 3
   have y3:=hf7.p.q.frozen 3
   have k4:=hf7.p.q.cell 4
   have y4:=hf7.p.q.frozen 4
   have k5:=hf7.p.q.cell 5
   have y5:=hf7.p.q.frozen 5
   have k6:=hf7.p.q.cell 6
   have y6:=hf7.p.q.frozen 6
   have k7:=hf7.p.q.cell 7
   have y7:=hf7.p.q.frozen 7
   have k8:=hf7.p.q.cell 8
   have y8:=hf7.p.q.frozen 8
   have k9:=hf7.p.q.cell 9
   have y9:=hf7.p.q.frozen 9
   have k10:=hf7.p.q.cell 10
   have y10:=hf7.p.q.frozen 10
   have ka:=hf7.p.a.cell 0
   have yka:=hf7.p.a.frozen 0
   have lka:=hf7.p.a.lt
   have ke:=hf7.p.e.cell 0
   have yke:=hf7.p.e.frozen 0
   have lke:=hf7.p.e.lt
   simp only[List.getElem?_toArray,List.getElem?_cons_zero,List.getElem?_cons_succ] at x0 k0 k1 k2 k3 k4 k5 k6 k7 k8 k9 k10 ka ke
   clear hf7 ho hsz ho2 mm3 hh3 mm4 hh4 mm5 hh5
   go_wp2_with fail
   rw[HF9.out.p.self]
   exact cmd_exit HF9.out.p rfl rfl rfl ⟨_,rfl,⟨_,_,_,_,_,rfl,World.ownsRow_nil _ _ _ _,(HMS.out.1.ownsRow (World.ownsRow.low HMS.out.2.1 HMS.out.2.2.1) (by decide)),((HMS.out.2.2.2.low HMS.out.2.2.1).mt HMS.out.1 (by decide) (by decide)),chgs_nil _ _,World.ownsRow_nil _ _ _ _⟩,HF9.out.p.b⟩
 ·have hin:=innB_any s fr _ pB0 hfs hss plB (fun W hW=>ppB W (HF6.out.p.b.trans (hW.mono (by have:=HF6.out.p.s;omega))))
  rw[hfr] at hin
  have HIN:=Lib.hid hin
  have HFR:=Lib.hid hfr
  have hre0:=HRES.out
  simp only[if_true,reduceIte,Int.reduceEq,or_self] at hre0
  have HRE:=Lib.hid hre0
  clear hin plS ppS plQ ppQ plB ppB hfs hss hfr hre0 HRES
  go_wp2_with fail
  refine HIN.out.mono ?_
  rintro e w7 hin
  rw[<-HFR.out] at hin
  rcases inn_split hin _ with ⟨a,e0,rfl,hre,hb7⟩ | ⟨v,x7,rfl,hR,hre,hb7⟩
  ·have hr2:=HRE.out.symm.trans hre
   subst hr2
   have HPX:=Lib.hid (HF6.out.p.keep hb7)
   clear HRE hre hin HIN hb7
   go_wp2_with fail
   exact cmd_door HPX.out rfl rfl rfl
  have hr2:=HRE.out.symm.trans hre
  subst hr2
  clear HRE hre hin HIN
  have ho:=hR
  obtain⟨_,hsl,_⟩:=hR
  obtain⟨ad,cap,rfl⟩:=own_sl hsl
  clear hsl
  have hf7:=HF6.out.keep hb7
  have hsz:w.heap.size<=w6.heap.size:=by have:=HF6.out.p.s;omega
  clear hb7 HF6 x0 xl pl k0 y0 z1 z5 zl
  have mm6:MT 0 [34] w7 (w7.setCell ⟨w.heap.size,6,none⟩ (.slice ad x7.length cap)):=MT.setCell (MT.refl w7) hf7.p.q (by simp) (Nat.zero_le _) _
  have hh6:CF w (w7.setCell ⟨w.heap.size,6,none⟩ (.slice ad x7.length cap)) #[_,.string ⟨#[]⟩,.slice none 0 0,.string ⟨#[]⟩,.slice none 0 0,.slice none 0 0,.slice ad x7.length cap,.string ⟨#[]⟩,.int .i64 0,.int .i64 0,.slice none 0 0] w1.heap.size w2.heap.size r c vt tkk vk vn tp xb vb:=hf7.store 6 (.slice ad x7.length cap)
  have HMS:=Lib.hid (And.intro mm6 (And.intro ho hsz))
  have HF9:=Lib.hid hh6
  have x0:=Blk.cell hf7.i 0
  have xl:=Blk.lt hf7.i
  have pl:=hf7.p.q.lt
  have k0:=hf7.p.q.cell 0
  have y0:=hf7.p.q.frozen 0
  have k1:=hf7.p.q.cell 1
  have y1:=hf7.p.q.frozen 1
  have k2:=hf7.p.q.cell 2
  have y2:=hf7.p.q.frozen 2
  have k3:=hf7.p.q.cell 3
  have y3:=hf7.p.q.frozen 3
  have k4:=hf7.p.q.cell 4
  have y4:=hf7.p.q.frozen 4
  have k5:=hf7.p.q.cell 5
  have y5:=hf7.p.q.frozen 5
  have k6:=hf7.p.q.cell 6
  have y6:=hf7.p.q.frozen 6
  have k7:=hf7.p.q.cell 7
  have y7:=hf7.p.q.frozen 7
  have k8:=hf7.p.q.cell 8
  have y8:=hf7.p.q.frozen 8
  have k9:=hf7.p.q.cell 9
  have y9:=hf7.p.q.frozen 9
  have k10:=hf7.p.q.cell 10
  have y10:=hf7.p.q.frozen 10
  have ka:=hf7.p.a.cell 0
  have yka:=hf7.p.a.frozen 0
  have lka:=hf7.p.a.lt
  have ke:=hf7.p.e.cell 0
  have yke:=hf7.p.e.frozen 0
  have lke:=hf7.p.e.lt
  simp only[List.getElem?_toArray,List.getElem?_cons_zero,List.getElem?_cons_succ] at x0 k0 k1 k2 k3 k4 k5 k6 k7 k8 k9 k10 ka ke
  clear hf7 ho hsz mm6 hh6
  go_wp2_with fail
  rw[HF9.out.p.self]
  exact cmd_exit HF9.out.p rfl rfl rfl ⟨_,rfl,⟨_,_,_,_,_,rfl,World.ownsRow_nil _ _ _ _,World.ownsRow_nil _ _ _ _,atoms_nil _ _,((HMS.out.2.1.low HMS.out.2.2).mt HMS.out.1 (by decide) (by decide)),World.ownsRow_nil _ _ _ _⟩,HF9.out.p.b⟩
def pS (l:List UInt8):PR Rln:=refS (startS (lexR l))
def pQ (l:List UInt8):PR Qry:=refQ (startS (lexR l))
def cmdT (l:List UInt8):PR Cmd:=parseC pS pQ parseB l
theorem pS_sure (l:List UInt8):match pS l with
 | .bad a e=>0<=a/\a<=l.length/\e≠0
 | .ok r _=>chkC r.name r.cols=0:=by
 unfold pS startS
 by_cases he:(lexR l).e=0
 ·rw[if_pos he,refS_ok (lex_ended he).1]
  exact schT_sure (lex_toks he (lex_ended he).1)
 ·rw[if_neg he,refS_bad]
  exact⟨(lex_place l he).1,(lex_place l he).2,he⟩
theorem pQ_sure (l:List UInt8):match pQ l with
 | .bad a e=>0<=a/\a<=l.length/\e≠0
 | .ok q _=>RightQ q/\RangeQ q:=by
 unfold pQ startS
 by_cases he:(lexR l).e=0
 ·rw[if_pos he,refQ_ok (lex_ended he).1]
  exact queryT_sure (lex_toksQ he (lex_ended he).1)
 ·rw[if_neg he,refQ_bad]
  exact⟨(lex_place l he).1,(lex_place l he).2,he⟩
theorem pQ_any (s:ByteArray) (w:World) (hs:s.size<=281474976710656) (hg:Glob w) :
 Calls Tryz.prog 25 #[.string s] w (QPost w (pQ s.data.toList)):=by
 unfold pQ startS
 by_cases he:(lexR s.data.toList).e=0
 ·rw[if_pos he,refQ_ok (lex_ended he).1]
  exact parse_line s w hs hg he
 ·rw[if_neg he,refQ_bad]
  exact parse_fault s w hs hg he
theorem extract_all (s:ByteArray) (n:Nat) (h:n<=s.size):(s.extract n s.size).data.toList=s.data.toList.drop n/\(s.extract n s.size).size<=s.size:=by
 have hl:s.data.toList.length=s.size:=rfl
 have e:(s.extract n s.size).data.toList=s.data.toList.drop n:=by
  rw[Lib.extract_data]
  exact List.take_of_length_le (by rw[List.length_drop];omega)
 refine⟨e,?_⟩
 have h2:(s.extract n s.size).size=(s.extract n s.size).data.toList.length:=rfl
 rw[h2,e,List.length_drop]
 omega
theorem tile_head {l:List UInt8} {t:Tok} {c:List Tok} (h:(lexR l).e=0) (hts:(lexR l).ts=t::c) (hk:t.k≠0):0<=t.p/\t.p.toNat+t.x.length<=l.length/\l.length<=16384:=by
 by_cases hl:16384<l.length
 ·rw[lexR_long hl] at h;simp at h
 ·rw[lexR_short (by omega)] at h hts
  have:=LX_tiles l l.length 0 (Nat.zero_le _) (by omega)
  rw[List.drop_zero,hts] at this
  have ht:=this h
  cases ht with
  | last=>exact absurd rfl hk
  | more h1 hp hb h2 hx h3 hk hr=>exact⟨by omega,by omega,by omega⟩
theorem cmd_any (s:ByteArray) (w:World) (hs:s.size<=281474976710656) (hg:GlobW w) :
 Calls Tryz.prog 13 #[.string s] w (CmdPost w (cmdT s.data.toList)):=by
 have hsl:s.data.toList.length=s.size:=rfl
 by_cases he:(lexR s.data.toList).e=0
 ·have hen:=(lex_ended he).1
  obtain⟨t,c,hts⟩:=hen.some
  have hgw:∀ W,Below w.heap.size w W->WordsAt W:=fun W hW=>hg.v.below hW
  have hop:=fun W (hW:Below w.heap.size w W)=>open_good s W hs (hg.g.below hW) he
  rw[hts] at hop
  have hr:=kindC_range t
  by_cases h0:kindC t=0
  ·have e:cmdT s.data.toList=.bad t.p 250:=by
    unfold cmdT parseC
    rw[if_neg (by simp [he]),hts]
    exact if_pos h0
   rw[e]
   exact cmd_none s w t c hgw hop h0
  ·have hk1:=kindC_one h0
   obtain⟨b1,b2,b3⟩:=tile_head he hts (by rw[hk1];decide)
   have hxs:(⟨t.x.toArray⟩:ByteArray).size=t.x.length:=by simp [ByteArray.size]
   have h1p:t.p+(⟨t.x.toArray⟩:ByteArray).size<=281474976710656:=by rw[hxs];omega
   obtain⟨fr,hfr⟩:∃ fr,fr=t.p.toNat+t.x.length:=⟨_,rfl⟩
   have hfr1:(fr:Int)=t.p+(⟨t.x.toArray⟩:ByteArray).size:=by rw[hxs];omega
   have hfr2:(fr:Int)=t.p+t.x.length:=by omega
   have hfs:fr<=s.size:=by omega
   obtain⟨x1,x2⟩:=extract_all s fr hfs
   have plS:PlaceOk (pS (s.data.toList.drop fr)):=fun a e q=>by
    have:=pS_sure (s.data.toList.drop fr)
    rw[q] at this
    simp only[List.length_drop] at this
    exact⟨this.1,by omega⟩
   have plQ:PlaceOk (pQ (s.data.toList.drop fr)):=fun a e q=>by
    have:=pQ_sure (s.data.toList.drop fr)
    rw[q] at this
    simp only[List.length_drop] at this
    exact⟨this.1,by omega⟩
   have plB:PlaceOk (parseB (s.data.toList.drop fr)):=fun a e q=>by
    have:=parseB_sure (s.data.toList.drop fr)
    rw[q] at this
    simp only[List.length_drop] at this
    exact⟨this.1,by omega⟩
   have cS:=fun W (hW:Below w.heap.size w W)=>sch_any (s.extract fr s.size) W (by omega) (hg.g.below hW)
   have cQ:=fun W (hW:Below w.heap.size w W)=>pQ_any (s.extract fr s.size) W (by omega) (hg.g.below hW)
   have cB:=fun W (hW:Below w.heap.size w W)=>batch_any (s.extract fr s.size) W (by omega) (hg.g.below hW)
   rw[x1] at cS cQ cB
   obtain⟨K,hK⟩:∃ K,kindC t=K:=⟨_,rfl⟩
   have e:cmdT s.data.toList=if K=1 then innerP (fr:Int) ⟨[],[]⟩ (pS (s.data.toList.drop fr)) fun x => { cmd0 with kind:=1,rel:=x }
    else if K=2∨K=14∨K=15 then innerP (fr:Int) ⟨[],[],[]⟩ (pQ (s.data.toList.drop fr)) fun x => { cmd0 with kind:=K,q:=x }
    else if K=4 then innerP (fr:Int) [] (parseB (s.data.toList.drop fr)) fun x => { cmd0 with kind:=4,b:=x }
    else endC (fieldsP K c):=by
    unfold cmdT parseC
    rw[if_neg (by simp [he]),hts]
    simp only[hK]
    rw[if_neg (by rw[<-hK];exact h0),<-hfr2,<-hfr]
   rw[e]
   exact cmd_some s w t c hgw hop hK b1 h1p (by rw[<-hK];exact h0) (by rw[<-hK];exact hr) fr hfr1 hfs hs _ plS cS _ plQ cQ _ plB cB
 ·have e:cmdT s.data.toList=.bad (lexR s.data.toList).at_ (lexR s.data.toList).e:=by
   unfold cmdT parseC
   exact if_pos he
  rw[e]
  exact cmd_bad s w _ _ fun W hb=>open_bad s W hs (hg.g.below hb) he
end Go.Proofs.YtamjadghncnbcaaGreatDoor
