/- command.name, command.number, walked. command.inner, walked at its three instances. reader.Some, reader.List at osier/api.Value, walked (printed by lst.py). command's small functions, walked: the literals' closure. command.kindOf, walked. -/
import Derived.Test.YtamjadghncnbcaaGreatDoorDaW
import Derived.Test.YtamjadghncnbcaaGreatDoorGaW
import Derived.Test.YtamjadghncnbcaaGreatDoorBaW
import Derived.Test.YtamjadghncnbcaaGreatDoorKdW
import Derived.Deep.RegionLaw
import Derived.BigQuiet
import Derived.Laws.Rows
namespace Go.Proofs.YtamjadghncnbcaaGreatDoor
open Go.RowKit
set_option linter.unusedVariables false
set_option maxHeartbeats 4000000 in
set_option maxRecDepth 100000 in
theorem cname_any {w:World} {r:Nat} {c:List Tok} {vt:Value} {B:Nat} (h:Rs w r c vt) (hB:B<=r) :
 Calls Tryz.prog 47 #[.pointer (some ⟨r,0,none⟩)] w (PPost (fun x c' v w'=>v=.string ⟨x.toArray⟩/\Rs w' r c' vt) B [177] w (nmP1 c)):=by
 have hf1:∀ (a b c d e f:Value) (w:World),(Instr.field 84 (.agg #[a,b,c,d,e,f]) 1).run Tryz.prog w=.ok b w:=fun _ _ _ _ _ _ _=>by kernel_rfl
 have htk:=take_rs (B:=B) (Ts:=[177]) h 1 [] _ (tx_nil _) hB (by simp)
 clear h
 unfold nmP1
 cases h0:tk 1 [] c with
 | bad a e =>
   rw[h0] at htk
   have HTK:=Lib.hid htk
   clear h0 htk
   go_enter Tryz.func47,Tryz.ntmps47
   go_wp2_with fail
   refine HTK.out.mono ?_
   rintro e w1 ⟨rfl,hm⟩
   have HM:=Lib.hid hm
   clear hm
   go_wp2_with fail
   exact⟨rfl,rfl,HM.out⟩
 | ok t c1 =>
   rw[h0] at htk
   have HTK:=Lib.hid htk
   clear htk h0
   go_enter Tryz.func47,Tryz.ntmps47
   go_wp2_with fail
   refine HTK.out.mono ?_
   rintro e w1 ⟨v,rfl,⟨rfl,hr1⟩,hm1⟩
   have HR1:=Lib.hid hr1
   have HM1:=Lib.hid hm1
   clear hr1 hm1 HTK
   unfold Tok.v
   go_wp2_with fail
   go_ret
   exact⟨_,rfl,⟨rfl,HR1.out⟩,HM1.out⟩
theorem numP_ok {t:Tok} {r:List Tok} (h1:t.k=2) (h2:t.vk=1):numP (t::r)=.ok t.vn r:=by
 unfold numP tk
 simp [h1,h2]
theorem numP_bad {t:Tok} {r:List Tok} (h:¬ (t.k=2/\t.vk=1)):numP (t::r)=.bad t.p 80:=by
 unfold numP
 exact if_neg h
set_option maxHeartbeats 4000000 in
set_option maxRecDepth 100000 in
theorem cnum_any {w:World} {r:Nat} {c:List Tok} {vt:Value} {B:Nat} (h:Rs w r c vt) (hB:B<=r) (hw:B<=w.heap.size) :
 Calls Tryz.prog 48 #[.pointer (some ⟨r,0,none⟩)] w (PPost (fun x c' v w'=>v=.int .i64 x/\Rs w' r c' vt) B [177] w (numP c)):=by
 obtain⟨t,c1,rfl⟩:=h.ended.some
 have hpk:=peek_rs h
 have htk:=fun W (hW:Below w.heap.size w W)=>take_rs (B:=B) (Ts:=[177]) (h.keep hW) 2 [] _ (tx_nil _) hB (by simp)
 have hbd:=fun (q:¬ (t.k=2/\t.vk=1))=>numP_bad (r:=c1) q
 have hgd:=fun (q:t.k=2) (q2:t.vk=1)=>numP_ok (r:=c1) q q2
 have htt:t.k=2->tk 2 [] (t::c1)=.ok t c1:=fun q=>by
  unfold tk
  simp [q]
 have HPK:=Lib.hid hpk
 have HTK:=Lib.hid htk
 have HBD:=Lib.hid hbd
 have HGD:=Lib.hid hgd
 have HTT:=Lib.hid htt
 obtain⟨RES,hRES⟩:∃ RES,numP (t::c1)=RES:=⟨_,rfl⟩
 rw[hRES] at HBD HGD ⊢
 clear h hpk htk hbd hgd htt hRES
 unfold Tok.v at HPK
 obtain⟨tkk,x,vk,vn,vs,tp⟩:=t
 simp only at *
 generalize (⟨x.toArray⟩:ByteArray)=xb at *
 generalize (⟨vs.toArray⟩:ByteArray)=vb at *
 by_cases h1:tkk=2
 ·subst h1
  by_cases h2:vk=1
  ·subst h2
   have hr:=HGD.out rfl rfl
   subst hr
   have htk2:=HTK.out
   rw[HTT.out rfl] at htk2
   have HTK2:=Lib.hid htk2
   clear HBD HGD HTK HTT htk2
   go_enter Tryz.func48,Tryz.ntmps48
   go_wp2_with fail
   refine HPK.out.mono ?_
   rintro e w1 ⟨rfl,hb1⟩
   have bx:=Blk.new w1 84 #[.int .i64 2,.string xb,.int .i64 1,.int .i64 vn,.string vb,.int .i64 tp]
   have hbx:Below w1.heap.size w1 (w1.alloc (.cells #[.int .i64 2,.string xb,.int .i64 1,.int .i64 vn,.string vb,.int .i64 tp] 84)):=balloc (Below.refl _ _) _
   obtain⟨W1,hW1⟩:∃ W1,w1.alloc (.cells #[.int .i64 2,.string xb,.int .i64 1,.int .i64 vn,.string vb,.int .i64 tp] 84)=W1:=⟨_,rfl⟩
   rw[hW1] at bx hbx
   have x0:=bx.cell 0
   have x2:=bx.cell 2
   have xl:=bx.lt
   simp only[List.getElem?_toArray,List.getElem?_cons_zero,List.getElem?_cons_succ] at x0 x2
   have hb01:=bt2 hb1 hbx
   have HT2:=Lib.hid (HTK2.out W1 hb01)
   have HBX:=Lib.hid bx
   have HB01:=Lib.hid hb01
   have HW1:=Lib.hid hW1
   clear bx hbx hb01 hb1 hW1 HTK2 HPK
   go_upto_region 2 with fail
   rw[HW1.out]
   go_wp2_with fail
   refine HT2.out.mono ?_
   rintro e w5 ⟨v5,rfl,⟨rfl,hr5⟩,hm5⟩
   have bx5:=HBX.out.mt hm5 (by decide)
   have y3:=bx5.cell 3
   have yl:=bx5.lt
   simp only[List.getElem?_toArray,List.getElem?_cons_zero,List.getElem?_cons_succ] at y3
   have HR5:=Lib.hid hr5
   have HM5:=Lib.hid ((MT.ofBelow (B:=B) (Ts:=[177]) HB01.out).trans hm5)
   clear hr5 hm5 bx5 x0 x2 xl HT2
   go_wp2_with fail
   go_ret
   exact⟨_,rfl,⟨rfl,HR5.out⟩,HM5.out⟩
  ·have hr:=HBD.out (fun q=>h2 q.2)
   subst hr
   have hne:(vk != 1)=true:=by simpa using h2
   clear HBD HGD HTK HTT h2
   go_enter Tryz.func48,Tryz.ntmps48
   go_wp2_with fail
   refine HPK.out.mono ?_
   rintro e w1 ⟨rfl,hb1⟩
   have HB1:=Lib.hid (balloc hb1 (.cells #[.int .i64 2,.string xb,.int .i64 vk,.int .i64 vn,.string vb,.int .i64 tp] 84))
   clear hb1 HPK
   go_wp2_with fail
   exact⟨rfl,rfl,MT.ofBelow HB1.out⟩
 ·have hr:=HBD.out (fun q=>h1 q.1)
  subst hr
  have hne:(tkk != 2)=true:=by simpa using h1
  clear HBD HGD HTK HTT h1
  go_enter Tryz.func48,Tryz.ntmps48
  go_wp2_with fail
  refine HPK.out.mono ?_
  rintro e w1 ⟨rfl,hb1⟩
  have HB1:=Lib.hid (balloc hb1 (.cells #[.int .i64 tkk,.string xb,.int .i64 vk,.int .i64 vn,.string vb,.int .i64 tp] 84))
  clear hb1 HPK
  go_wp2_with fail
  exact⟨rfl,rfl,MT.ofBelow HB1.out⟩
def InnPost {α:Type} (R:Nat->World->Value->α->Prop) (z:α) (fr:Int) (w:World):PR α->Ending->World->Prop
 | .bad a f,e,w'=>(f≠0->e=.panicked [{ v:=faultV (fr+a) f,recovered:=false }])/\(f=0->∃ v,e=.returned v/\R w.heap.size w' v z)/\Below w.heap.size w w'
 | .ok x _,e,w'=>∃ v,e=.returned v/\R w.heap.size w' v x/\Below w.heap.size w w'
def RelR (B:Nat) (w:World) (v:Value) (x:Rln):Prop:=∃ cv,v=.agg #[.string ⟨x.name.toArray⟩,cv]/\ColsOwn B w cv x.cols
def QryR (B:Nat) (w:World) (v:Value) (x:Qry):Prop:=∃ hv av,v=.agg #[.string ⟨x.name.toArray⟩,hv,av]/\OwnS B w hv x.head/\AtomsOwn B w av x.atoms
theorem chgs_nil (B:Nat) (w:World):ChgsOwn B w (.slice none 0 0) []:=⟨[],World.ownsRow_nil _ _ _ _,trivial⟩
theorem atoms_nil (B:Nat) (w:World):AtomsOwn B w (.slice none 0 0) []:=⟨[],World.ownsRow_nil _ _ _ _,trivial⟩
theorem inner_end2 {w w1:World} {ty:TypeId} {c0 c1:Value} (zb:Blk w1 w.heap.size ty #[c0,c1]) (hb:Below w.heap.size w w1) (v0 v1:Value) (o:Obj) :
 MT 0 [ty] w1 (((w1.setCell ⟨w.heap.size,0,none⟩ v0).setCell ⟨w.heap.size,1,none⟩ v1).alloc o)/\Below w.heap.size w (((w1.setCell ⟨w.heap.size,0,none⟩ v0).setCell ⟨w.heap.size,1,none⟩ v1).alloc o):=by
 have m1:MT 0 [ty] w1 (w1.setCell ⟨w.heap.size,0,none⟩ v0):=MT.setCell (MT.refl w1) zb (by simp) (Nat.zero_le _) _
 have z1:=zb.set_ 0 v0
 have m2:=MT.setCell m1 z1 (i:=1) (by simp) (Nat.zero_le _) v1
 exact⟨m2.trans (MT.ofBelow (balloc (Below.refl _ _) o)),balloc ((hb.setCell (Nat.le_refl _) _).setCell (Nat.le_refl _) _) o⟩
theorem inner_end3 {w w1:World} {ty:TypeId} {c0 c1 c2:Value} (zb:Blk w1 w.heap.size ty #[c0,c1,c2]) (hb:Below w.heap.size w w1) (v0 v1 v2:Value) (o:Obj) :
 MT 0 [ty] w1 ((((w1.setCell ⟨w.heap.size,0,none⟩ v0).setCell ⟨w.heap.size,1,none⟩ v1).setCell ⟨w.heap.size,2,none⟩ v2).alloc o)/\Below w.heap.size w ((((w1.setCell ⟨w.heap.size,0,none⟩ v0).setCell ⟨w.heap.size,1,none⟩ v1).setCell ⟨w.heap.size,2,none⟩ v2).alloc o):=by
 have m1:MT 0 [ty] w1 (w1.setCell ⟨w.heap.size,0,none⟩ v0):=MT.setCell (MT.refl w1) zb (by simp) (Nat.zero_le _) _
 have z1:=zb.set_ 0 v0
 have m2:=MT.setCell m1 z1 (i:=1) (by simp) (Nat.zero_le _) v1
 have m3:=MT.setCell m2 (z1.set_ 1 v1) (i:=2) (by simp) (Nat.zero_le _) v2
 exact⟨m3.trans (MT.ofBelow (balloc (Below.refl _ _) o)),balloc (((hb.setCell (Nat.le_refl _) _).setCell (Nat.le_refl _) _).setCell (Nat.le_refl _) _) o⟩
theorem atoms_sl {B:Nat} {w:World} {v:Value} {l:List Atm} (h:AtomsOwn B w v l):∃ (a:Option Addr) (cap:Nat),v=.slice a l.length cap:=by
 obtain⟨rows,h1,_⟩:=h
 exact own_sl h1
theorem AtomsOwn.low {B B':Nat} {w:World} {v:Value} {al:List Atm} (h:AtomsOwn B w v al) (hb:B'<=B):AtomsOwn B' w v al:=by
 obtain⟨rows,h1,h2⟩:=h
 exact⟨rows,World.ownsRow.low h1 hb,h2.mono fun row a ⟨tv,e,h3⟩=>⟨tv,e,World.ownsRow.low h3 hb⟩⟩
theorem AtomsOwn.mt {B B':Nat} {w w':World} {v:Value} {al:List Atm} {Ts:List TypeId} (h:AtomsOwn B w v al) (hm:MT B' Ts w w') (h1:67 ∉ Ts) (h2:71 ∉ Ts):AtomsOwn B w' v al:=by
 obtain⟨rows,h3,h4⟩:=h
 exact⟨rows,hm.ownsRow h3 h1,h4.mono fun row a ⟨tv,e,h5⟩=>⟨tv,e,hm.ownsRow h5 h2⟩⟩
def PlaceOk {α:Type} (p:PR α):Prop:=∀ a e,p=.bad a e->0<=a/\a<=281474976710656
set_option maxHeartbeats 4000000 in
set_option maxRecDepth 100000 in
theorem innB_any (s:ByteArray) (fr:Nat) (w:World) (p:PR (List Chg)) (hfr:fr<=s.size) (hs:s.size<=281474976710656) (hr:PlaceOk p)
 (hp:∀ W,Below w.heap.size w W->Calls Tryz.prog 27 #[.string (s.extract fr s.size)] W (BPost W p)) :
 Calls Tryz.prog 46 #[.string s,.int .i64 (fr:Int),.func (.func 27) #[] #[]] w (InnPost ChgsOwn [] fr w p):=by
 have hmf:∀ (fn:Fn) (first cap:Array Value) (w:World),(Instr.makeFunc fn first cap).run Tryz.prog w=.ok (.func fn first cap) w:=fun _ _ _ _=>rfl
 have h0:=hp w (Below.refl _ _)
 have HP:=Lib.hid h0
 cases p with
 | bad a f =>
   have hra:=hr a f rfl
   clear h0 hp hr
   by_cases hf:f=0
   ·subst hf
    go_enter Tryz.func46,Tryz.ntmps46
    go_wp2_with fail
    refine HP.out.mono ?_
    rintro e w1 ⟨rfl,hb⟩
    have HB:=Lib.hid hb
    clear hb
    go_wp2_with fail
    go_ret
    exact⟨fun q=>absurd rfl q,fun _=>⟨_,rfl,chgs_nil _ _⟩,HB.out⟩
   ·have hf1:(f != 0)=true:=by simpa using hf
    go_enter Tryz.func46,Tryz.ntmps46
    go_wp2_with fail
    refine HP.out.mono ?_
    rintro e w1 ⟨rfl,hb⟩
    have HB:=Lib.hid hb
    clear hb
    go_wp2_with fail
    exact⟨rfl,fun _=>rfl,fun q=>absurd q hf,HB.out⟩
 | ok x c =>
   clear h0 hp hr
   go_enter Tryz.func46,Tryz.ntmps46
   go_wp2_with fail
   refine HP.out.mono ?_
   rintro e w1 ⟨bv,rfl,ho,hb⟩
   have HB:=Lib.hid hb
   have HO:=Lib.hid ho
   clear hb ho
   go_wp2_with fail
   go_ret
   exact⟨_,rfl,HO.out,HB.out⟩
set_option maxHeartbeats 4000000 in
set_option maxRecDepth 100000 in
theorem innS_any (s:ByteArray) (fr:Nat) (w:World) (p:PR Rln) (hfr:fr<=s.size) (hs:s.size<=281474976710656) (hr:PlaceOk p)
 (hp:∀ W,Below w.heap.size w W->Calls Tryz.prog 23 #[.string (s.extract fr s.size)] W (SPost W p)) :
 Calls Tryz.prog 44 #[.string s,.int .i64 (fr:Int),.func (.func 23) #[] #[]] w (InnPost RelR ⟨[],[]⟩ fr w p):=by
 have hb0:Below w.heap.size w (w.alloc (.cells #[.string ⟨#[]⟩,.slice none 0 0] 25)):=balloc (Below.refl _ _) _
 have zb:=Blk.new w 25 #[.string ⟨#[]⟩,.slice none 0 0]
 have h0:=hp _ hb0
 have HP:=Lib.hid h0
 have HB0:=Lib.hid hb0
 have ZB:=Lib.hid zb
 clear hb0 zb h0 hp
 cases p with
 | bad a f =>
   have hra:=hr a f rfl
   clear hr
   by_cases hf:f=0
   ·subst hf
    go_enter Tryz.func44,Tryz.ntmps44
    go_wp2_with fail
    refine HP.out.mono ?_
    rintro e w1 ⟨rfl,hb⟩
    have HB:=Lib.hid (bt2 HB0.out hb)
    have zb1:=ZB.out.below hb ZB.out.lt
    have z0:=zb1.cell 0
    have y0:=zb1.frozen 0
    have z1:=zb1.cell 1
    have y1:=zb1.frozen 1
    have zl:=zb1.lt
    simp only[List.getElem?_toArray,List.getElem?_cons_zero,List.getElem?_cons_succ] at z0 z1
    have ZB1:=Lib.hid zb1
    clear hb zb1 ZB HP HB0
    go_wp2_with fail
    have hend:=fun o=>inner_end2 ZB1.out HB.out (.string ⟨#[]⟩) (.slice none 0 0) o
    have HE:=Lib.hid hend
    clear hend ZB1 HB
    refine bodyPost_ret (v:=.agg #[.string ⟨#[]⟩,.slice none 0 0]) (by simp [results,Tryz.results44,go_sem, *]) rfl ⟨fun q=>absurd rfl q,fun _=>⟨_,rfl,⟨_,rfl,World.ownsRow_nil _ _ _ _⟩⟩,(HE.out _).2⟩
   ·have hf1:(f != 0)=true:=by simpa using hf
    go_enter Tryz.func44,Tryz.ntmps44
    go_wp2_with fail
    refine HP.out.mono ?_
    rintro e w1 ⟨rfl,hb⟩
    have HB:=Lib.hid (balloc (bt2 HB0.out hb) (.cells #[.string ⟨#[]⟩,.slice none 0 0] 25))
    clear hb HB0
    go_wp2_with fail
    exact⟨rfl,fun _=>rfl,fun q=>absurd q hf,HB.out⟩
 | ok x c =>
   clear hr
   go_enter Tryz.func44,Tryz.ntmps44
   go_wp2_with fail
   refine HP.out.mono ?_
   rintro e w1 ⟨cv,rfl,ho,hb⟩
   obtain⟨ad,cap,rfl⟩:=own_sl ho
   have HB:=Lib.hid (bt2 HB0.out hb)
   have HO:=Lib.hid ho
   have zb1:=ZB.out.below hb ZB.out.lt
   have z0:=zb1.cell 0
   have y0:=zb1.frozen 0
   have z1:=zb1.cell 1
   have y1:=zb1.frozen 1
   have zl:=zb1.lt
   simp only[List.getElem?_toArray,List.getElem?_cons_zero,List.getElem?_cons_succ] at z0 z1
   have hend:=fun o=>inner_end2 zb1 HB.out (.string ⟨x.name.toArray⟩) (.slice ad x.cols.length cap) o
   have HE:=Lib.hid hend
   clear hb ho zb1 ZB HP HB0 HB hend
   go_wp2_with fail
   refine bodyPost_ret (v:=.agg #[.string ⟨x.name.toArray⟩,.slice ad x.cols.length cap]) (by simp [results,Tryz.results44,go_sem, *]) rfl ⟨_,rfl,⟨_,rfl,(HE.out _).1.ownsRow (World.ownsRow.low HO.out (by simp)) (by decide)⟩,(HE.out _).2⟩
set_option maxHeartbeats 4000000 in
set_option maxRecDepth 100000 in
theorem innQ_any (s:ByteArray) (fr:Nat) (w:World) (p:PR Qry) (hfr:fr<=s.size) (hs:s.size<=281474976710656) (hr:PlaceOk p)
 (hp:∀ W,Below w.heap.size w W->Calls Tryz.prog 25 #[.string (s.extract fr s.size)] W (QPost W p)) :
 Calls Tryz.prog 45 #[.string s,.int .i64 (fr:Int),.func (.func 25) #[] #[]] w (InnPost QryR ⟨[],[],[]⟩ fr w p):=by
 have hb0:Below w.heap.size w (w.alloc (.cells #[.string ⟨#[]⟩,.slice none 0 0,.slice none 0 0] 29)):=balloc (Below.refl _ _) _
 have zb:=Blk.new w 29 #[.string ⟨#[]⟩,.slice none 0 0,.slice none 0 0]
 have h0:=hp _ hb0
 have HP:=Lib.hid h0
 have HB0:=Lib.hid hb0
 have ZB:=Lib.hid zb
 clear hb0 zb h0 hp
 cases p with
 | bad a f =>
   have hra:=hr a f rfl
   clear hr
   by_cases hf:f=0
   ·subst hf
    go_enter Tryz.func45,Tryz.ntmps45
    go_wp2_with fail
    refine HP.out.mono ?_
    rintro e w1 ⟨rfl,hb⟩
    have HB:=Lib.hid (bt2 HB0.out hb)
    have zb1:=ZB.out.below hb ZB.out.lt
    have z0:=zb1.cell 0
    have y0:=zb1.frozen 0
    have z1:=zb1.cell 1
    have y1:=zb1.frozen 1
    have z2:=zb1.cell 2
    have y2:=zb1.frozen 2
    have zl:=zb1.lt
    simp only[List.getElem?_toArray,List.getElem?_cons_zero,List.getElem?_cons_succ] at z0 z1 z2
    have ZB1:=Lib.hid zb1
    clear hb zb1 ZB HP HB0
    go_wp2_with fail
    have hend:=fun o=>inner_end3 ZB1.out HB.out (.string ⟨#[]⟩) (.slice none 0 0) (.slice none 0 0) o
    have HE:=Lib.hid hend
    clear hend ZB1 HB
    refine bodyPost_ret (v:=.agg #[.string ⟨#[]⟩,.slice none 0 0,.slice none 0 0]) (by simp [results,Tryz.results45,go_sem, *]) rfl ⟨fun q=>absurd rfl q,fun _=>⟨_,rfl,⟨_,_,rfl,World.ownsRow_nil _ _ _ _,atoms_nil _ _⟩⟩,(HE.out _).2⟩
   ·have hf1:(f != 0)=true:=by simpa using hf
    go_enter Tryz.func45,Tryz.ntmps45
    go_wp2_with fail
    refine HP.out.mono ?_
    rintro e w1 ⟨rfl,hb⟩
    have HB:=Lib.hid (balloc (bt2 HB0.out hb) (.cells #[.string ⟨#[]⟩,.slice none 0 0,.slice none 0 0] 29))
    clear hb HB0
    go_wp2_with fail
    exact⟨rfl,fun _=>rfl,fun q=>absurd q hf,HB.out⟩
 | ok x c =>
   clear hr
   go_enter Tryz.func45,Tryz.ntmps45
   go_wp2_with fail
   refine HP.out.mono ?_
   rintro e w1 ⟨hv,av,rfl,ho,ho2,hb⟩
   obtain⟨ad,cap,rfl⟩:=own_sl ho
   obtain⟨ad2,cap2,rfl⟩:=atoms_sl ho2
   have HB:=Lib.hid (bt2 HB0.out hb)
   have HO:=Lib.hid (And.intro ho ho2)
   have zb1:=ZB.out.below hb ZB.out.lt
   have z0:=zb1.cell 0
   have y0:=zb1.frozen 0
   have z1:=zb1.cell 1
   have y1:=zb1.frozen 1
   have z2:=zb1.cell 2
   have y2:=zb1.frozen 2
   have zl:=zb1.lt
   simp only[List.getElem?_toArray,List.getElem?_cons_zero,List.getElem?_cons_succ] at z0 z1 z2
   have hend:=fun o=>inner_end3 zb1 HB.out (.string ⟨x.name.toArray⟩) (.slice ad x.head.length cap) (.slice ad2 x.atoms.length cap2) o
   have HE:=Lib.hid hend
   clear hb ho ho2 zb1 ZB HP HB0 HB hend
   go_wp2_with fail
   refine bodyPost_ret (v:=.agg #[.string ⟨x.name.toArray⟩,.slice ad x.head.length cap,.slice ad2 x.atoms.length cap2]) (by simp [results,Tryz.results45,go_sem, *]) rfl ⟨_,rfl,⟨_,_,rfl,(HE.out _).1.ownsRow (World.ownsRow.low HO.out.1 (by simp)) (by decide),(HO.out.2.low (by simp)).mt (HE.out _).1 (by decide) (by decide)⟩,(HE.out _).2⟩
theorem Tryz.info_Cv:(Tryz.prog.info? 69).map (fun i=>(i.zero,i.size,i.bytes))=some (some (.agg #[.int .i64 0,.int .i64 0,.string ⟨#[]⟩]),3,32):=by kernel_rfl
set_option maxHeartbeats 16000000 in
set_option maxRecDepth 100000 in
theorem some_Cv {α:Type} (P:List Tok->PR α) (El:World->List Value->α->Prop) (J:World->List α->Prop) (B:Nat) (Ts:List TypeId) (r:Nat) (vt:Value) (lb:Array Value)
 (hP:Less P) (hB:B<=r) (hR:177∈Ts) (hT:69 ∉ Ts)
 (hJ:∀ (w w':World) (xs:List α),MT B [69,177] w w'->J w xs->J w' xs)
 (hE:∀ (w w':World) (cs:List Value) (x:α),MT B (69::Ts) w w'->El w cs x->El w' cs x)
 (hone:∀ (w:World) (xs:List α) (c:List Tok),B<=w.heap.size->J w xs->Rs w r c vt->Calls Tryz.prog 50 lb w (PPost (fun x c' v w'=>OneR 3 El J r vt xs x c' v w') B Ts w (P c)))
 (w:World) (c:List Tok) (hc:Rs w r c vt) (hj:J w []) (hw:B<=w.heap.size) :
 Calls Tryz.prog 112 #[.pointer (some ⟨r,0,none⟩),.func (.func 50) #[] lb] w (PPost (fun xs c' v w'=>ListR w.heap.size 69 3 El J r vt xs c' v w') B Ts w (someP P c)):=by
 obtain⟨i0,hi0,hz0,hz1,hz2⟩:=info_parts Tryz.info_Cv
 have hlen:=hc.len
 have HONE:=Lib.hid hone
 have HJ:=Lib.hid hJ
 have HE:=Lib.hid hE
 have hone0:=hone w [] c hw hj hc
 have hTR:69 ∉ [177]:=by decide
 clear hone hJ hE hj hc
 cases hp:P c with
 | bad a e =>
   rw[hp] at hone0
   rw[some_bad hp]
   have HO:=Lib.hid hone0
   clear hp hone0
   go_enter Tryz.func112,Tryz.ntmps112
   go_wp2_with fail
   refine HO.out.mono ?_
   rintro e' w1 ⟨rfl,hm⟩
   have HM:=Lib.hid hm
   clear hm
   go_wp2_with fail
   exact⟨rfl,ppost_bad HM.out⟩
 | ok x c1 =>
   rw[hp] at hone0
   rw[some_ok hp]
   have HO:=Lib.hid hone0
   have hl1:=hP _ _ _ hp
   clear hp hone0
   have HRES:Hid (restP P [x] c1=restP P [x] c1):=Lib.hid rfl
   generalize hres:restP P [x] c1=RES at HRES ⊢
   clear HRES
   have HRS:=Lib.hid hres
   clear hres
   go_enter Tryz.func112,Tryz.ntmps112
   go_wp2_with fail
   refine HO.out.mono ?_
   rintro e' w1 ⟨v,rfl,⟨cs,rfl,⟨hl,h1,he⟩,hj1,hr1⟩,hm⟩
   obtain⟨e0,e1,e2,rfl⟩:=len3 hl
   have hsz1:=hm.size
   have hal:MT B [69,177] w1 (w1.alloc (.cells #[e0,e1,e2] 69)):=(MT.refl w1).alloc _
   have HJ1:=Lib.hid (HJ.out _ _ _ hal hj1)
   have HM1:=Lib.hid (hm.alloc (.cells #[e0,e1,e2] 69))
   have HE1:=Lib.hid (show ElOk 3 El (w1.alloc (.cells #[e0,e1,e2] 69)) [e0,e1,e2] x from ⟨hl,h1,HE.out _ _ _ _ ((MT.refl w1).alloc _) he⟩)
   have HR1:=Lib.hid (hr1.keep (balloc (Below.refl _ _) (.cells #[e0,e1,e2] 69)))
   have HO1:=Lib.hid (World.ownsRow_lit (base:=w.heap.size) (e:=69) (size:=3) w1 #[e0,e1,e2] 1 hsz1 (by unfold maxLen;omega) rfl)
   clear hl h1 he hj1 hr1 hm hal HO
   go_wp2_with fail
   go_loopw [5] (fun v wr=>∃ (ys:List α) (css:List (List Value)) (cc:List Tok) (ad:Option Addr) (cap:Nat),v=.slice ad ys.length cap/\Hid (wr.ownsRow w.heap.size 69 3 (.slice ad ys.length cap) ys.length css.flatten)/\Hid (All2 (ElOk 3 El wr) css ys)/\Hid (J wr ys)/\Hid (Rs wr r cc vt)/\Hid (MT B Ts w wr)/\Hid (restP P ys cc=RES)/\ys.length+cc.length<=200000) (fun v _=>200000 - (match v with | .slice _ n _=>n | _=>0))
   case atStart=>exact⟨[x],[[e0,e1,e2]],c1,some ⟨w1.heap.size,0,none⟩,1,rfl,HO1,Lib.hid ⟨HE1.out,trivial⟩,HJ1,HR1,HM1,HRS,by simp;omega⟩
   case round =>
    obtain⟨ys,css,cc,ad,cap,rfl,OW,AL,JW,RW,MW,RE,hbd⟩:=hrel
    have HIS:=Lib.hid (is_rs RW.out [44])
    cases him:isM [44] cc with
    | false =>
      have hre:=RE.out
      rw[restP_end ys him] at hre
      rw[him] at HIS
      subst hre
      clear him
      go_wp2_with fail
      refine HIS.out.mono ?_
      rintro e2 w2 ⟨rfl,hb2⟩
      have HB2:=Lib.hid hb2
      clear hb2
      go_wp2_with fail
      go_ret
      refine⟨_,rfl,⟨css,(Mod.ofBelow (F:=fun _=>False) HB2.out).ownsRow OW.out (fun _ _ f=>f),AL.out.mono (fun b a h=>⟨h.1,h.2.1,HE.out _ _ _ _ (MT.ofBelow HB2.out) h.2.2⟩),HJ.out _ _ _ (MT.ofBelow HB2.out) JW.out,RW.out.keep HB2.out⟩,MW.out.plusBelow HB2.out⟩
    | true =>
      obtain⟨t,htk⟩:=isM_tk him
      have hne:1<=cc.length:=by
       cases cc with
       | nil=>simp [isM] at him
       | cons _ _=>simp
      have hdl:(cc.drop 1).length=cc.length - 1:=List.length_drop ..
      rw[him] at HIS
      have HIM:=Lib.hid him
      have HTK:=Lib.hid htk
      clear him htk
      go_wp2_with fail
      refine HIS.out.mono ?_
      rintro e2 w2 ⟨rfl,hb2⟩
      have HMK:=Lib.hid (mark_rs (B:=B) (Ts:=[177]) (RW.out.keep hb2) [44] hB (by simp))
      rw[HTK.out] at HMK
      have HB2:=Lib.hid hb2
      clear hb2
      go_wp2_with fail
      refine HMK.out.mono ?_
      rintro e3 w3 ⟨v3,rfl,⟨rfl,hr3⟩,hm3⟩
      have m03:MT B [177] wr w3:=(MT.ofBelow HB2.out).trans hm3
      have hB3:B<=w3.heap.size:=by have:=MW.out.size;have:=m03.size;omega
      have hone3:=HONE.out w3 ys (cc.drop 1) hB3 (HJ.out _ _ _ (m03.wide (by simp)) JW.out) hr3
      have M03:=Lib.hid m03
      have toTs:∀ t∈[177],t∈Ts:=fun t ht=>by simp at ht;subst ht;exact hR
      have TOTS:=Lib.hid toTs
      clear hr3 hm3 m03 toTs
      unfold Tok.v
      cases hp:P (cc.drop 1) with
      | bad a e =>
        rw[hp] at hone3
        have hre:=RE.out
        rw[restP_bad ys HIM.out hp] at hre
        subst hre
        have HO3:=Lib.hid hone3
        clear hp hone3
        go_wp2_with fail
        refine HO3.out.mono ?_
        rintro e4 w4 ⟨rfl,hm4⟩
        have HM4:=Lib.hid hm4
        clear hm4
        go_wp2_with fail
        exact⟨rfl,ppost_bad ((MW.out.trans (M03.out.wide TOTS.out)).trans HM4.out)⟩
      | ok x c4 =>
        rw[hp] at hone3
        have hre:=restP_ok hP ys HIM.out hp
        have hl4:=hP _ _ _ hp
        have hrq:=hre.1
        rw[RE.out] at hrq
        have HRE:=Lib.hid hrq.symm
        have HO3:=Lib.hid hone3
        clear hp hone3 hre hrq
        go_wp2_with fail
        refine HO3.out.mono ?_
        rintro e4 w4 ⟨v4,rfl,⟨cs4,rfl,⟨hl,h1,he⟩,hj4,hr4⟩,hm4⟩
        obtain⟨e0,e1,e2,rfl⟩:=len3 hl
        have m04:MT B Ts wr w4:=(M03.out.wide TOTS.out).trans hm4
        have HO4:=Lib.hid (m04.ownsRow OW.out hT)
        have HW4:=Lib.hid (MW.out.trans m04)
        have hsz4:=HW4.out.size
        have M04:=Lib.hid m04
        have H1:=Lib.hid h1
        have HEL:=Lib.hid he
        have HJ4:=Lib.hid hj4
        have HR4:=Lib.hid hr4
        clear hl h1 he hj4 hr4 hm4 m04
        go_wp2_with (at_builtin;refine wpList_append_lies _ rfl (.tmp 13) (.tmp 16) 31 rfl w.heap.size 69 i0 (.agg #[.int .i64 0,.int .i64 0,.string ⟨#[]⟩]) 3 32 Tryz.underlying31 hi0 hz0 hz1 hz2 rfl (by decide) (.slice ad ys.length cap) ys.length _ rfl (HO4.out.alloc _) ⟨_,0,none⟩ 1 1 [e0,e1,e2] rfl rfl (World.news_of_block (Blk.new _ _ _)) H1.out (by decide) ?c3 ?c5 ?c4 _ rfl ?_)
        case c3=>unfold maxLen;omega
        case c5=>omega
        case c4=>simp;omega
        intro g cap1 w5 hown2 hgrow2 hat2 hlt2
        have m45:MT B [69] w4 w5:=((MT.refl w4).alloc _).grown hgrow2 (HO4.out.alloc _) (by simp) hw
        have mall:MT B (69::Ts) wr w5:=(M04.out.wide (fun _ h=>List.mem_cons_of_mem _ h)).trans (m45.wide (by simp))
        have HO5:=Lib.hid hown2
        have MALL:=Lib.hid mall
        have M45:=Lib.hid m45
        have HG:=Lib.hid hgrow2
        clear hown2 hgrow2 hat2 hlt2 m45 mall
        go_wp2_with fail
        go_roundw
        case rel =>
         refine⟨ys++[x],css++[[e0,e1,e2]],c4,some ⟨g,0,none⟩,cap1,by simp,Lib.hid ?_,Lib.hid ?_,Lib.hid (HJ.out _ _ _ (M45.out.wide (by simp)) HJ4.out),Lib.hid (HR4.out.mt M45.out (by decide) (by decide)),Lib.hid ?_,HRE,by simp;omega⟩
         ·have:=HO5.out
          simpa [List.flatten_append] using this
         ·exact (AL.out.mono (fun b a h=>⟨h.1,h.2.1,HE.out _ _ _ _ MALL.out h.2.2⟩)).snoc ⟨rfl,H1.out,HE.out _ _ _ _ (M45.out.wide (by simp)) HEL.out⟩
         ·exact Mod.grown (HW4.out.alloc _) HG.out (fun k hk hlt=>by have:=(HO4.out.lt k hk).1;omega)
        case measure=>simp;omega
set_option maxHeartbeats 16000000 in
set_option maxRecDepth 100000 in
theorem list_Cv {α:Type} (P:List Tok->PR α) (El:World->List Value->α->Prop) (J:World->List α->Prop) (B:Nat) (Ts:List TypeId) (r:Nat) (vt:Value) (lb:Array Value)
 (hP:Less P) (hB:B<=r) (hR:177∈Ts) (hT:69 ∉ Ts)
 (hJ:∀ (w w':World) (xs:List α),MT B [69,177] w w'->J w xs->J w' xs)
 (hE:∀ (w w':World) (cs:List Value) (x:α),MT B (69::Ts) w w'->El w cs x->El w' cs x)
 (hone:∀ (w:World) (xs:List α) (c:List Tok),B<=w.heap.size->J w xs->Rs w r c vt->Calls Tryz.prog 50 lb w (PPost (fun x c' v w'=>OneR 3 El J r vt xs x c' v w') B Ts w (P c)))
 (w:World) (c:List Tok) (hc:Rs w r c vt) (hj:J w []) (hw:B<=w.heap.size) :
 Calls Tryz.prog 49 #[.pointer (some ⟨r,0,none⟩),.func (.func 50) #[] lb] w (PPost (fun xs c' v w'=>ListR w.heap.size 69 3 El J r vt xs c' v w') B Ts w (listP P c)):=by
 have HSOME:=Lib.hid (fun W C=>some_Cv P El J B Ts r vt lb hP hB hR hT hJ hE hone W C)
 have HJ:=Lib.hid hJ
 have HE:=Lib.hid hE
 have hmk:=mark_rs (B:=B) (Ts:=[177]) hc [40] hB (by simp)
 have HJW:=Lib.hid hj
 have toTs:∀ t∈[177],t∈Ts:=fun t ht=>by simp at ht;subst ht;exact hR
 have TOTS:=Lib.hid toTs
 clear hone hJ hE hj hc toTs
 cases h0:tk 3 [[40]] c with
 | bad a e =>
   rw[h0] at hmk
   rw[list_bad0 h0]
   have HMK:=Lib.hid hmk
   clear hmk h0
   go_enter Tryz.func49,Tryz.ntmps49
   go_wp2_with fail
   refine HMK.out.mono ?_
   rintro e1 w1 ⟨rfl,hm⟩
   have HM:=Lib.hid hm
   clear hm
   go_wp2_with fail
   exact⟨rfl,ppost_bad (HM.out.wide TOTS.out)⟩
 | ok t c1 =>
   rw[h0] at hmk
   have H0:=Lib.hid h0
   have HMK:=Lib.hid hmk
   clear hmk h0
   cases him:isM [41] c1 with
   | true =>
     rw[list_none H0.out him]
     obtain⟨u,hu⟩:=isM_tk him
     have HIM:=Lib.hid him
     have HU:=Lib.hid hu
     clear him hu
     go_enter Tryz.func49,Tryz.ntmps49
     go_wp2_with fail
     refine HMK.out.mono ?_
     rintro e1 w1 ⟨v1,rfl,⟨rfl,hr1⟩,hm⟩
     have HM:=Lib.hid hm
     have HR1:=Lib.hid hr1
     have his:=is_rs hr1 [41]
     rw[HIM.out] at his
     have HIS:=Lib.hid his
     clear hm hr1 his
     unfold Tok.v
     go_wp2_with fail
     refine HIS.out.mono ?_
     rintro e2 w2 ⟨rfl,hb2⟩
     have hmk2:=mark_rs (B:=B) (Ts:=[177]) (HR1.out.keep hb2) [41] hB (by simp)
     rw[HU.out] at hmk2
     have HMK2:=Lib.hid hmk2
     have HB2:=Lib.hid hb2
     clear hb2 hmk2
     go_wp2_with fail
     refine HMK2.out.mono ?_
     rintro e3 w3 ⟨v3,rfl,⟨rfl,hr3⟩,hm3⟩
     have m3:MT B [177] w w3:=(HM.out.plusBelow HB2.out).trans hm3
     have M3:=Lib.hid m3
     have HR3:=Lib.hid hr3
     clear hr3 hm3 m3
     unfold Tok.v
     go_wp2_with fail
     go_ret
     exact⟨_,rfl,⟨[],World.ownsRow_nil _ _ _ _,trivial,HJ.out _ _ _ (M3.out.wide (by simp)) HJW.out,HR3.out⟩,M3.out.wide TOTS.out⟩
   | false =>
     have HIM:=Lib.hid him
     clear him
     cases hs:someP P c1 with
     | bad a e =>
       rw[list_bad1 H0.out HIM.out hs]
       have HS:=Lib.hid hs
       clear hs
       go_enter Tryz.func49,Tryz.ntmps49
       go_wp2_with fail
       refine HMK.out.mono ?_
       rintro e1 w1 ⟨v1,rfl,⟨rfl,hr1⟩,hm⟩
       have HM:=Lib.hid hm
       have HR1:=Lib.hid hr1
       have his:=is_rs hr1 [41]
       rw[HIM.out] at his
       have HIS:=Lib.hid his
       clear hm hr1 his
       unfold Tok.v
       go_wp2_with fail
       refine HIS.out.mono ?_
       rintro e2 w2 ⟨rfl,hb2⟩
       have m2:MT B [177] w w2:=HM.out.plusBelow hb2
       have hso:=HSOME.out w2 c1 (HR1.out.keep hb2) (HJ.out _ _ _ (m2.wide (by simp)) HJW.out) (by have:=m2.size;omega)
       rw[HS.out] at hso
       have HSO:=Lib.hid hso
       have M2:=Lib.hid m2
       clear hso m2 hb2
       go_wp2_with fail
       refine HSO.out.mono ?_
       rintro e3 w3 ⟨rfl,hm3⟩
       have HM3:=Lib.hid hm3
       clear hm3
       go_wp2_with fail
       exact⟨rfl,ppost_bad ((M2.out.wide TOTS.out).trans HM3.out)⟩
     | ok xs c2 =>
       cases h4:tk 3 [[41]] c2 with
       | bad a e =>
         rw[list_bad2 H0.out HIM.out hs h4]
         have HS:=Lib.hid hs
         have H4:=Lib.hid h4
         clear hs h4
         go_enter Tryz.func49,Tryz.ntmps49
         go_wp2_with fail
         refine HMK.out.mono ?_
         rintro e1 w1 ⟨v1,rfl,⟨rfl,hr1⟩,hm⟩
         have HM:=Lib.hid hm
         have HR1:=Lib.hid hr1
         have his:=is_rs hr1 [41]
         rw[HIM.out] at his
         have HIS:=Lib.hid his
         clear hm hr1 his
         unfold Tok.v
         go_wp2_with fail
         refine HIS.out.mono ?_
         rintro e2 w2 ⟨rfl,hb2⟩
         have m2:MT B [177] w w2:=HM.out.plusBelow hb2
         have hso:=HSOME.out w2 c1 (HR1.out.keep hb2) (HJ.out _ _ _ (m2.wide (by simp)) HJW.out) (by have:=m2.size;omega)
         rw[HS.out] at hso
         have HSO:=Lib.hid hso
         have M2:=Lib.hid m2
         clear hso m2 hb2
         go_wp2_with fail
         refine HSO.out.mono ?_
         rintro e3 w3 ⟨v3,rfl,⟨css,hown,hal,hj3,hr3⟩,hm3⟩
         obtain⟨ad,cap,rfl⟩:=own_sl hown
         have hmk3:=mark_rs (B:=B) (Ts:=[177]) hr3 [41] hB (by simp)
         rw[H4.out] at hmk3
         have hl2:=M2.out.size
         have HOWN:=Lib.hid (World.ownsRow.low hown hl2)
         have HAL:=Lib.hid hal
         have HJ3:=Lib.hid hj3
         have HM3:=Lib.hid ((M2.out.wide TOTS.out).trans hm3)
         have HMK3:=Lib.hid hmk3
         clear hown hal hj3 hm3 hr3 hmk3
         go_wp2_with fail
         refine HMK3.out.mono ?_
         rintro e4 w4 ⟨rfl,hm4⟩
         have HM4:=Lib.hid hm4
         clear hm4
         go_wp2_with fail
         exact⟨rfl,ppost_bad (HM3.out.trans (HM4.out.wide TOTS.out))⟩
       | ok u c3 =>
         rw[list_ok H0.out HIM.out hs h4]
         have HS:=Lib.hid hs
         have H4:=Lib.hid h4
         clear hs h4
         go_enter Tryz.func49,Tryz.ntmps49
         go_wp2_with fail
         refine HMK.out.mono ?_
         rintro e1 w1 ⟨v1,rfl,⟨rfl,hr1⟩,hm⟩
         have HM:=Lib.hid hm
         have HR1:=Lib.hid hr1
         have his:=is_rs hr1 [41]
         rw[HIM.out] at his
         have HIS:=Lib.hid his
         clear hm hr1 his
         unfold Tok.v
         go_wp2_with fail
         refine HIS.out.mono ?_
         rintro e2 w2 ⟨rfl,hb2⟩
         have m2:MT B [177] w w2:=HM.out.plusBelow hb2
         have hso:=HSOME.out w2 c1 (HR1.out.keep hb2) (HJ.out _ _ _ (m2.wide (by simp)) HJW.out) (by have:=m2.size;omega)
         rw[HS.out] at hso
         have HSO:=Lib.hid hso
         have M2:=Lib.hid m2
         clear hso m2 hb2
         go_wp2_with fail
         refine HSO.out.mono ?_
         rintro e3 w3 ⟨v3,rfl,⟨css,hown,hal,hj3,hr3⟩,hm3⟩
         obtain⟨ad,cap,rfl⟩:=own_sl hown
         have hmk3:=mark_rs (B:=B) (Ts:=[177]) hr3 [41] hB (by simp)
         rw[H4.out] at hmk3
         have hl2:=M2.out.size
         have HOWN:=Lib.hid (World.ownsRow.low hown hl2)
         have HAL:=Lib.hid hal
         have HJ3:=Lib.hid hj3
         have HM3:=Lib.hid ((M2.out.wide TOTS.out).trans hm3)
         have HMK3:=Lib.hid hmk3
         clear hown hal hj3 hm3 hr3 hmk3
         go_wp2_with fail
         refine HMK3.out.mono ?_
         rintro e4 w4 ⟨v4,rfl,⟨rfl,hr4⟩,hm4⟩
         have HM4:=Lib.hid hm4
         have HR4:=Lib.hid hr4
         clear hm4 hr4
         unfold Tok.v
         go_wp2_with fail
         go_ret
         exact⟨_,rfl,⟨css,HM4.out.ownsRow HOWN.out (by decide),HAL.out.mono (fun b a h=>⟨h.1,h.2.1,HE.out _ _ _ _ ((HM4.out.wide TOTS.out).wide (fun _ h=>List.mem_cons_of_mem _ h)) h.2.2⟩),HJ.out _ _ _ (HM4.out.wide (by simp)) HJ3.out,HR4.out⟩,HM3.out.trans (HM4.out.wide TOTS.out)⟩
set_option maxHeartbeats 4000000 in
set_option maxRecDepth 100000 in
theorem cLit_any {w:World} {b r:Nat} {c:List Tok} {vt:Value} {B:Nat} {xs:List Vl} (hi:InB w b r) (h:Rs w r c vt) (hB:B<=r) (hw:B<=w.heap.size) :
 Calls Tryz.prog 50 #[.pointer (some ⟨b,0,none⟩)] w (PPost (fun x c' v w'=>OneR 3 ElV (fun w _=>InB w b r) r vt xs x c' v w') B [177] w (litP c)):=by
 have hf2:∀ (a b c d e f:Value) (w:World),(Instr.field 84 (.agg #[a,b,c,d,e,f]) 2).run Tryz.prog w=.ok (.agg #[c,d,e]) w:=fun _ _ _ _ _ _ _=>by kernel_rfl
 have hb0:Below w.heap.size w (w.alloc (.cells #[.int .i64 0,.int .i64 0,.string ⟨#[]⟩] 69)):=balloc (Below.refl _ _) _
 have htk:=take_rs (B:=B) (Ts:=[177]) (h.keep hb0) 2 [] _ (tx_nil _) hB (by simp)
 have zb:=Blk.new w 69 #[.int .i64 0,.int .i64 0,.string ⟨#[]⟩]
 have hi0:InB (w.alloc (.cells #[.int .i64 0,.int .i64 0,.string ⟨#[]⟩] 69)) b r:=Blk.alloc hi _
 have x0:=Blk.cell hi 0
 have hbl:=Blk.lt hi
 simp at x0
 have HI0:=Lib.hid hi0
 have HB0:=Lib.hid hb0
 have ZB:=Lib.hid zb
 clear h hb0 zb hi hi0
 cases h0:tk 2 [] c with
 | bad a e =>
   rw[h0] at htk
   rw[lit_bad h0]
   have HTK:=Lib.hid htk
   clear h0 htk
   go_enter Tryz.func50,Tryz.ntmps50
   go_wp2_with fail
   refine HTK.out.mono ?_
   rintro e w1 ⟨rfl,hm⟩
   have HM:=Lib.hid hm
   clear hm
   go_wp2_with fail
   exact⟨rfl,ppost_bad ((MT.ofBelow HB0.out).trans HM.out)⟩
 | ok t c1 =>
   rw[h0] at htk
   have HTK:=Lib.hid htk
   rw[lit_ok h0]
   clear htk h0
   go_enter Tryz.func50,Tryz.ntmps50
   go_wp2_with fail
   refine HTK.out.mono ?_
   rintro e w1 ⟨v,rfl,⟨rfl,hr1⟩,hm1⟩
   have zb1:=ZB.out.mt hm1 (by decide)
   have hi1:InB w1 b r:=Blk.mt HI0.out hm1 (by decide)
   have HZ1:=Lib.hid zb1
   have HI1:=Lib.hid hi1
   have HR1:=Lib.hid hr1
   have HM1:=Lib.hid ((MT.ofBelow HB0.out).trans hm1)
   clear zb1 hi1 hr1 hm1 HTK
   unfold Tok.v
   go_wp2_with (refine wpList_store_blk rfl 69 _ _ rfl w.heap.size 69 _ _ rfl rfl HZ1.out (by kernel_rfl) rfl (by simp [Value.oneCell']) ?_)
   intro w4 hb4 hm4 hz4
   have r0:=hb4.cell 0
   have r1:=hb4.cell 1
   have r2:=hb4.cell 2
   simp only[List.getElem?_toArray,List.getElem?_cons_zero,List.getElem?_cons_succ] at r0 r1 r2
   have m4:MT 0 [69] w1 w4:=MT.ofMod hm4 HZ1.out (by simp) (Nat.zero_le _)
   have HP:Hid (PPost (fun x c' v w'=>OneR 3 ElV (fun w _=>InB w b r) r vt xs x c' v w') B [177] w (.ok ⟨t.vk,t.vn,t.vt⟩ c1) (.returned (.agg #[.int .i64 t.vk,.int .i64 t.vn,.string ⟨t.vt.toArray⟩])) w4) :=
    Lib.hid ⟨_,rfl,⟨[.int .i64 t.vk,.int .i64 t.vn,.string ⟨t.vt.toArray⟩],rfl,⟨rfl,by
     intro z hz
     simp only[List.mem_cons,List.not_mem_nil,or_false] at hz
     rcases hz with rfl | rfl | rfl<;>rfl,rfl⟩,Blk.mt HI1.out m4 (by decide),HR1.out.mt m4 (by decide) (by decide)⟩,HM1.out.own hm4 (Nat.le_refl _)⟩
   clear hb4 hm4 hz4 m4
   go_wp2_with fail
   exact bodyPost_ret (v:=.agg #[.int .i64 t.vk,.int .i64 t.vn,.string ⟨t.vt.toArray⟩]) (by simp [results,Tryz.results50,go_sem, *]) rfl HP.out
set_option maxHeartbeats 4000000 in
set_option maxRecDepth 100000 in
theorem cVals_any {w:World} {b r:Nat} {c:List Tok} {vt:Value} {B:Nat} (hi:InB w b r) (h:Rs w r c vt) (hB:B<=r) (hw:B<=w.heap.size) :
 Calls Tryz.prog 49 #[.pointer (some ⟨r,0,none⟩),.func (.func 50) #[] #[.pointer (some ⟨b,0,none⟩)]] w
  (PPost (fun xs c' v w'=>w'.ownsRow w.heap.size 69 3 v xs.length (xs.map Vl.cells).flatten/\InB w' b r/\Rs w' r c' vt) B [177] w (listP litP c)):=by
 refine (list_Cv litP ElV (fun w _=>InB w b r) B [177] r vt #[.pointer (some ⟨b,0,none⟩)] lit_less hB (by simp) (by decide) (fun w w' xs hm hj=>Blk.mt hj hm (by decide)) (fun _ _ _ _ _ h=>h) ?_ w c h hi hw).mono ?_
 ·intro w xs c hw hj hr
  exact cLit_any hj hr hB hw
 ·intro e w' hp
  refine hp.mono fun xs c' v w' hh=>?_
  obtain⟨css,h1,h2,h3,h4⟩:=hh
  rw[all2_elV h2] at h1
  exact⟨h1,h3,h4⟩
set_option maxHeartbeats 4000000 in
set_option maxRecDepth 100000 in
theorem kindOf_of (wa:Array Value) (hsz:(Tryz.prog.info? 117).map (·.size)=some wa.size) (hixa:∀ (w:World) (k:Nat),k<19->(Instr.index 117 (.agg wa) (.int .i64 (k:Int))).run Tryz.prog w=.ok (.string ⟨(wordsW.getD k []).toArray⟩) w) (t:Tok) (w:World) (tt:TypeId) (ff:Nat × Nat) (hw:w.heap[0]? = some (.cells wa tt ff)):Calls Tryz.prog 42 #[t.v] w fun e w'=>e=.returned (.int .i64 (kindC t))/\Below w.heap.size w w':=by
 have hb0:Below w.heap.size w (w.alloc (.cells t.cells.toArray 84)):=balloc (Below.refl _ _) _
 have bx:=Blk.new w 84 t.cells.toArray
 have hk:(w.alloc (.cells t.cells.toArray 84)).heap[0]? = some (.cells wa tt ff):=(Below.heap_alloc w _ _ (Array.getElem?_eq_some_iff.1 hw).1).trans hw
 have HNO:=Lib.hid (fun (h:t.k≠1)=>kindC_name h)
 have HHIT:=Lib.hid (fun k (h1:k<19) (h2:t.k=1) (h3:wordsW.getD k []=t.x)=>kindC_at h1 h2 h3)
 have HMISS:=Lib.hid (fun (h:∀ k,k<19->wordsW.getD k []≠t.x)=>kindC_none h)
 obtain⟨K,hK⟩:∃ K,kindC t=K:=⟨_,rfl⟩
 rw[hK] at HNO HMISS ⊢
 simp only[hK] at HHIT
 clear hK
 obtain⟨tk,x,vk,vn,vt,tp⟩:=t
 unfold Tok.cells at hb0 bx hk
 unfold Tok.v
 simp only at HNO HHIT HMISS hb0 bx hk ⊢
 have x0:=bx.cell 0
 have x1:=bx.cell 1
 have xl:=bx.lt
 simp only[List.getElem?_toArray,List.getElem?_cons_zero,List.getElem?_cons_succ] at x0 x1
 obtain⟨W0,hW0⟩:∃ W0,w.alloc (.cells (List.toArray [.int .i64 tk,.string ⟨x.toArray⟩,.int .i64 vk,.int .i64 vn,.string ⟨vt.toArray⟩,.int .i64 tp]) 84)=W0:=⟨_,rfl⟩
 rw[hW0] at hb0 x0 x1 xl hk
 have HW0:=Lib.hid hW0
 have HB0:=Lib.hid hb0
 have HV:=Lib.hid hk
 have HIX:=Lib.hid hixa
 clear hixa hw
 clear hb0 bx hk hW0
 generalize hxb:(⟨x.toArray⟩:ByteArray)=xb at *
 have HXB:=Lib.hid hxb
 clear hxb
 by_cases h1:tk=1
 ·subst h1
  have HH:=Lib.hid (fun k hk hx=>HHIT.out k hk rfl hx)
  clear HNO HHIT
  go_enter Tryz.func42,Tryz.ntmps42
  go_upto_region 1 with fail
  rw[HW0.out]
  go_wp2_with (refine wpList_load_row rfl 117 _ rfl 0 rfl tt wa ff _ HV.out Tryz.underlying117 rfl hsz ?_)
  go_loopw [9] (fun iv wr=>∃ k:Nat,k<=19/\iv=.int .i64 k/\Hid (wr=W0)/\Hid (∀ j,j<k->wordsW.getD j []≠x)) (fun iv _=>19 - (intOf iv).toNat)
  case atStart=>exact⟨0,Nat.zero_le _,rfl,Lib.hid rfl,Lib.hid (fun j hj=>by omega)⟩
  case round =>
   obtain⟨k,hk,rfl,HE,HM⟩:=hrel
   obtain rfl:=HE.out
   by_cases hlt:k<19
   ·have hix:=fun w=>HIX.out w k hlt
    obtain⟨y,hy⟩:∃ y,wordsW.getD k []=y:=⟨_,rfl⟩
    rw[hy] at hix
    have hc1:decide ((k:Int)<19)=true:=by simp;omega
    generalize hyb:(⟨y.toArray⟩:ByteArray)=yb at *
    by_cases hyx:y=x
    ·obtain rfl:xb=yb:=by rw[<-HXB.out,<-hyb,hyx]
     have hr:=HH.out k hlt (hy.trans hyx)
     subst hr
     clear hy hyb hyx HH HMISS
     go_wp2_with fail
     go_ret
     exact⟨by first | rfl | simp,HB0.out⟩
    ·have hne:¬ (yb.toList=xb.toList):=fun e=>hyx (by rw[<-HXB.out,<-hyb] at e;simpa [ByteArray.toList_eq] using e)
     have hnb:(yb.toList == xb.toList)=false:=by simpa using hne
     have hnn:∀ j,j<k+1->wordsW.getD j []≠x:=fun j hj e=>by
      rcases Nat.lt_or_ge j k with h | h
      ·exact HM.out j h e
      ·obtain rfl:j=k:=by omega
       exact hyx (hy.symm.trans e)
     have HNN:=Lib.hid hnn
     clear hy hyb hyx hnn
     go_wp2_with fail
     go_roundw
     case rel=>exact⟨k+1,by omega,by go_num,Lib.hid trivial,HNN⟩
     case measure=>simp [intOf];omega
   ·obtain rfl:k=19:=by omega
    have hr:=HMISS.out HM.out
    subst hr
    go_wp2_with fail
    go_ret
    exact⟨by first | rfl | simp,HB0.out⟩
 ·have hr:=HNO.out h1
  subst hr
  have hne:(tk == 1)=false:=by simpa using h1
  clear HNO HHIT HMISS h1
  go_enter Tryz.func42,Tryz.ntmps42
  go_upto_region 1 with fail
  rw[HW0.out]
  go_wp2_with fail
  go_ret
  exact⟨by first | rfl | simp,HB0.out⟩
theorem kindOf_any (t:Tok) (w:World) (hw:WordsAt w):Calls Tryz.prog 42 #[t.v] w fun e w'=>e=.returned (.int .i64 (kindC t))/\Below w.heap.size w w' :=
 kindOf_of wordsA (by kernel_rfl) (fun w k hk=>index_words w k hk) t w _ _ hw.choose_spec.choose_spec
end Go.Proofs.YtamjadghncnbcaaGreatDoor
