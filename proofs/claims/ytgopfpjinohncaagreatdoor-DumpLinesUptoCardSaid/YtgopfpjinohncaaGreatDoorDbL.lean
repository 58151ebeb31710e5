/- command.inner, walked at its three instances. command.kindOf, walked. command.Parse's frame. command.Parse at two lines, walked (printed by mkcdp.py). -/
import Derived.Test.YtgopfpjinohncaaGreatDoorBaL
import Derived.Test.YtgopfpjinohncaaGreatDoorKdL
import Derived.Test.YtgopfpjinohncaaGreatDoorInAtmZL
import Derived.Deep.RegionLaw
import Derived.BigQuiet
import Derived.Laws.Rows
import Derived.KernelRfl
namespace Go.Proofs.YtgopfpjinohncaaGreatDoor
open Go.RowKit
set_option linter.unusedVariables false
def InnPost {α:Type} (R:Nat->World->Value->α->Prop) (z:α) (fr:Int) (w:World):PR α->Ending->World->Prop
 | .bad a f,e,w'=>(f≠0->e=.panicked [{ v:=faultV (fr+a) f,recovered:=false }])/\(f=0->∃ v,e=.returned v/\R w.heap.size w' v z)/\Below w.heap.size w w'
 | .ok x _,e,w'=>∃ v,e=.returned v/\R w.heap.size w' v x/\Below w.heap.size w w'
def RelR (B:Nat) (w:World) (v:Value) (x:Rln):Prop:=∃ cv,v=.agg #[.string ⟨x.name.toArray⟩,cv]/\ColsOwn B w cv x.cols
theorem chgs_nil (B:Nat) (w:World):ChgsOwn B w (.slice none 0 0) []:=⟨[],World.ownsRow_nil _ _ _ _,trivial⟩
theorem atoms_nil (B:Nat) (w:World):AtomsOwn B w (.slice none 0 0) []:=⟨[],World.ownsRow_nil _ _ _ _,trivial⟩
theorem inner_end2 {w w1:World} {ty:TypeId} {c0 c1:Value} (zb:Blk w1 w.heap.size ty #[c0,c1]) (hb:Below w.heap.size w w1) (v0 v1:Value) (o:Obj) :
 MT 0 [ty] w1 (((w1.setCell ⟨w.heap.size,0,none⟩ v0).setCell ⟨w.heap.size,1,none⟩ v1).alloc o)/\Below w.heap.size w (((w1.setCell ⟨w.heap.size,0,none⟩ v0).setCell ⟨w.heap.size,1,none⟩ v1).alloc o):=by
 have m1:MT 0 [ty] w1 (w1.setCell ⟨w.heap.size,0,none⟩ v0):=MT.setCell (MT.refl w1) zb (by simp) (Nat.zero_le _) _
 have z1:=zb.set_ 0 v0
 have m2:=MT.setCell m1 z1 (i:=1) (by simp) (Nat.zero_le _) v1
 exact⟨m2.trans (MT.ofBelow (balloc (Below.refl _ _) o)),balloc ((hb.setCell (Nat.le_refl _) _).setCell (Nat.le_refl _) _) o⟩
theorem atoms_sl {B:Nat} {w:World} {v:Value} {l:List Atm} (h:AtomsOwn B w v l):∃ (a:Option Addr) (cap:Nat),v=.slice a l.length cap:=by
 obtain⟨rows,h1,_⟩:=h
 exact own_sl h1
set_option maxHeartbeats 4000000 in
set_option maxRecDepth 100000 in
theorem kindOf_of (wa:Array Value) (hsz:(Tryz.prog.info? 138).map (·.size)=some wa.size) (hixa:∀ (w:World) (k:Nat),k<19->(Instr.index 138 (.agg wa) (.int .i64 (k:Int))).run Tryz.prog w=.ok (.string ⟨(wordsW.getD k []).toArray⟩) w) (t:Tok) (w:World) (tt:TypeId) (ff:Nat × Nat) (hw:w.heap[0]? = some (.cells wa tt ff)):Calls Tryz.prog 56 #[t.v] w fun e w'=>e=.returned (.int .i64 (kindC t))/\Below w.heap.size w w':=by
 have hb0:Below w.heap.size w (w.alloc (.cells t.cells.toArray 122)):=balloc (Below.refl _ _) _
 have bx:=Blk.new w 122 t.cells.toArray
 have hk:(w.alloc (.cells t.cells.toArray 122)).heap[0]? = some (.cells wa tt ff):=(Below.heap_alloc w _ _ (Array.getElem?_eq_some_iff.1 hw).1).trans hw
 have HNO:=Lib.hid (fun (h:t.k≠1)=>kindC_name h)
 have HHIT:=Lib.hid (fun k (h1:k<19) (h2:t.k=1) (h3:wordsW.getD k []=t.x)=>kindC_at h1 h2 h3)
 have HMISS:=Lib.hid (fun (h:∀ k,k<19->wordsW.getD k []≠t.x)=>kindC_none h)
 obtain⟨K,hK⟩:∃ K,kindC t=K:=⟨_,rfl⟩
 rw[hK] at HNO HMISS ⊢
 simp only[hK] at HHIT
 clear hK
 obtain⟨tk,x,vk,vn,vt,tp⟩:=t
 unfold Tok.cells at hb0 bx hk
 unfold Tok.v
 simp only at HNO HHIT HMISS hb0 bx hk ⊢
 have x0:=bx.cell 0
 have x1:=bx.cell 1
 have xl:=bx.lt
 simp only[List.getElem?_toArray,List.getElem?_cons_zero,List.getElem?_cons_succ] at x0 x1
 obtain⟨W0,hW0⟩:∃ W0,w.alloc (.cells (List.toArray [.int .i64 tk,.string ⟨x.toArray⟩,.int .i64 vk,.int .i64 vn,.string ⟨vt.toArray⟩,.int .i64 tp]) 122)=W0:=⟨_,rfl⟩
 rw[hW0] at hb0 x0 x1 xl hk
 have HW0:=Lib.hid hW0
 have HB0:=Lib.hid hb0
 have HV:=Lib.hid hk
 have HIX:=Lib.hid hixa
 clear hixa hw
 clear hb0 bx hk hW0
 generalize hxb:(⟨x.toArray⟩:ByteArray)=xb at *
 have HXB:=Lib.hid hxb
 clear hxb
 by_cases h1:tk=1
 ·subst h1
  have HH:=Lib.hid (fun k hk hx=>HHIT.out k hk rfl hx)
  clear HNO HHIT
  go_enter Tryz.func56,Tryz.ntmps56
  go_upto_region 1 with fail
  rw[HW0.out]
  go_wp2_with (refine wpList_load_row rfl 138 _ rfl 0 rfl tt wa ff _ HV.out Tryz.underlying138 rfl hsz ?_)
  go_loopw [9] (fun iv wr=>∃ k:Nat,k<=19/\iv=.int .i64 k/\Hid (wr=W0)/\Hid (∀ j,j<k->wordsW.getD j []≠x)) (fun iv _=>19 - (intOf iv).toNat)
  case atStart=>exact⟨0,Nat.zero_le _,rfl,Lib.hid rfl,Lib.hid (fun j hj=>by omega)⟩
  case round =>
   obtain⟨k,hk,rfl,HE,HM⟩:=hrel
   obtain rfl:=HE.out
   by_cases hlt:k<19
   ·have hix:=fun w=>HIX.out w k hlt
    obtain⟨y,hy⟩:∃ y,wordsW.getD k []=y:=⟨_,rfl⟩
    rw[hy] at hix
    have hc1:decide ((k:Int)<19)=true:=by simp;omega
    generalize hyb:(⟨y.toArray⟩:ByteArray)=yb at *
    by_cases hyx:y=x
    ·obtain rfl:xb=yb:=by rw[<-HXB.out,<-hyb,hyx]
     have hr:=HH.out k hlt (hy.trans hyx)
     subst hr
     clear hy hyb hyx HH HMISS
     go_wp2_with fail
     go_ret
     exact⟨by first | rfl | simp,HB0.out⟩
    ·have hne:¬ (yb.toList=xb.toList):=fun e=>hyx (by rw[<-HXB.out,<-hyb] at e;simpa [ByteArray.toList_eq] using e)
     have hnb:(yb.toList == xb.toList)=false:=by simpa using hne
     have hnn:∀ j,j<k+1->wordsW.getD j []≠x:=fun j hj e=>by
      rcases Nat.lt_or_ge j k with h | h
      ·exact HM.out j h e
      ·obtain rfl:j=k:=by omega
       exact hyx (hy.symm.trans e)
     have HNN:=Lib.hid hnn
     clear hy hyb hyx hnn
     go_wp2_with fail
     go_roundw
     case rel=>exact⟨k+1,by omega,by go_num,Lib.hid trivial,HNN⟩
     case measure=>simp [intOf];omega
   ·obtain rfl:k=19:=by omega
    have hr:=HMISS.out HM.out
    subst hr
    go_wp2_with fail
    go_ret
    exact⟨by first | rfl | simp,HB0.out⟩
 ·have hr:=HNO.out h1
  subst hr
  have hne:(tk == 1)=false:=by simpa using h1
  clear HNO HHIT HMISS h1
  go_enter Tryz.func56,Tryz.ntmps56
  go_upto_region 1 with fail
  rw[HW0.out]
  go_wp2_with fail
  go_ret
  exact⟨by first | rfl | simp,HB0.out⟩
theorem kindOf_any (t:Tok) (w:World) (hw:WordsAt w):Calls Tryz.prog 56 #[t.v] w fun e w'=>e=.returned (.int .i64 (kindC t))/\Below w.heap.size w w' :=
 kindOf_of wordsA (by kernel_rfl) (fun w k hk=>index_words w k hk) t w _ _ hw.choose_spec.choose_spec
structure CF (w0 w:World) (cs:Array Value) (b tb r:Nat) (c:List Tok) (vt:Value) (tkk vk vn tp:Int) (xb vb:ByteArray):Prop where
 p:PCm w0 w0.heap.size cs w
 i:InB w b r
 k:Blk w tb 122 #[.int .i64 tkk,.string xb,.int .i64 vk,.int .i64 vn,.string vb,.int .i64 tp]
 rs:Rs w r c vt
 hr:w0.heap.size+3<=r
 hb:w0.heap.size+3<=b
 ht:w0.heap.size+3<=tb
section
variable {w0 w w' : World} {cs : Array Value} {b tb r : Nat} {c c' : List Tok} {vt : Value} {tkk vk vn tp : Int} {xb vb : ByteArray}
theorem CF.keep (h:CF w0 w cs b tb r c vt tkk vk vn tp xb vb) (hb:Below w.heap.size w w'):CF w0 w' cs b tb r c vt tkk vk vn tp xb vb :=
 ⟨h.p.keep hb,Blk.below h.i hb (Blk.lt h.i),h.k.below hb h.k.lt,h.rs.keep hb,h.hr,h.hb,h.ht⟩
theorem CF.take (h:CF w0 w cs b tb r c vt tkk vk vn tp xb vb) (hm:MT (w0.heap.size+3) [213] w w') (hr:Rs w' r c' vt):CF w0 w' cs b tb r c' vt tkk vk vn tp xb vb :=
 ⟨h.p.mt hm,Blk.mt h.i hm (by decide),h.k.mt hm (by decide),hr,h.hr,h.hb,h.ht⟩
theorem CF.store (h:CF w0 w cs b tb r c vt tkk vk vn tp xb vb) (i:Nat) (u:Value):CF w0 (w.setCell ⟨w0.heap.size,i,none⟩ u) (cs.setIfInBounds i u) b tb r c vt tkk vk vn tp xb vb:=by
 have h1:=h.hb
 have h2:=h.ht
 have m:MT 0 [61] w (w.setCell ⟨w0.heap.size,i,none⟩ u):=MT.setCell (MT.refl w) h.p.q (by simp) (Nat.zero_le _) _
 exact⟨h.p.store i u,Blk.mt h.i m (by decide),h.k.mt m (by decide),h.rs.mt m (by decide) (by decide),h.hr,h.hb,h.ht⟩
end
theorem kindC_one {t:Tok} (h:kindC t≠0):t.k=1:=Decidable.byContradiction fun q=>h (kindC_name q)
theorem PCm.self {w0 w:World} {n:Nat} {x0 x1 x2 x3 x4 x5 x6 x7 x8 x9 x10:Value} (h:PCm w0 n #[x0,x1,x2,x3,x4,x5,x6,x7,x8,x9,x10] w) :
 ((((((((((w.setCell ⟨n,0,none⟩ x0).setCell ⟨n,1,none⟩ x1).setCell ⟨n,2,none⟩ x2).setCell ⟨n,3,none⟩ x3).setCell ⟨n,4,none⟩ x4).setCell ⟨n,5,none⟩ x5).setCell ⟨n,6,none⟩ x6).setCell ⟨n,7,none⟩ x7).setCell ⟨n,8,none⟩ x8).setCell ⟨n,9,none⟩ x9).setCell ⟨n,10,none⟩ x10=w:=by
 rw[setCell_self (i:=0) (v:=x0) h.q rfl,setCell_self (i:=1) (v:=x1) h.q rfl,setCell_self (i:=2) (v:=x2) h.q rfl,setCell_self (i:=3) (v:=x3) h.q rfl,setCell_self (i:=4) (v:=x4) h.q rfl,setCell_self (i:=5) (v:=x5) h.q rfl,setCell_self (i:=6) (v:=x6) h.q rfl,setCell_self (i:=7) (v:=x7) h.q rfl,setCell_self (i:=8) (v:=x8) h.q rfl,setCell_self (i:=9) (v:=x9) h.q rfl,setCell_self (i:=10) (v:=x10) h.q rfl]
set_option maxHeartbeats 8000000 in
set_option maxRecDepth 100000 in
theorem innB_ok (s:ByteArray) (fr:Nat) (w:World) (x:(List Chg)) (hfr:fr<=s.size) (hs:s.size<=281474976710656)
 (hp:∀ W,Below w.heap.size w W->Calls Tryz.prog 63 #[.string (s.extract fr s.size)] W (BPost W (.ok x []))) :
 Calls Tryz.prog 62 #[.string s,.int .i64 (fr:Int),.func (.func 63) #[] #[]] w (InnPost ChgsOwn [] fr w (.ok x [])):=by
 have hmf:∀ (fn:Fn) (first cap:Array Value) (w:World),(Instr.makeFunc fn first cap).run Tryz.prog w=.ok (.func fn first cap) w:=fun _ _ _ _=>rfl
 have h0:=hp w (Below.refl _ _)
 have HP:=Lib.hid h0
 clear h0 hp
 go_enter Tryz.func62,Tryz.ntmps62
 go_wp2_with fail
 refine HP.out.mono ?_
 rintro e w1 ⟨bv,rfl,ho,hb⟩
 have HB:=Lib.hid hb
 have HO:=Lib.hid ho
 clear hb ho
 go_wp2_with fail
 go_ret
 exact⟨_,rfl,HO.out,HB.out⟩
set_option maxHeartbeats 8000000 in
set_option maxRecDepth 100000 in
theorem innS_ok (s:ByteArray) (fr:Nat) (w:World) (x:Rln) (hfr:fr<=s.size) (hs:s.size<=281474976710656)
 (hp:∀ W,Below w.heap.size w W->Calls Tryz.prog 59 #[.string (s.extract fr s.size)] W (SPost W (.ok x []))) :
 Calls Tryz.prog 58 #[.string s,.int .i64 (fr:Int),.func (.func 59) #[] #[]] w (InnPost RelR ⟨[],[]⟩ fr w (.ok x [])):=by
 have hb0:Below w.heap.size w (w.alloc (.cells #[.string ⟨#[]⟩,.slice none 0 0] 57)):=balloc (Below.refl _ _) _
 have zb:=Blk.new w 57 #[.string ⟨#[]⟩,.slice none 0 0]
 have h0:=hp _ hb0
 have HP:=Lib.hid h0
 have HB0:=Lib.hid hb0
 have ZB:=Lib.hid zb
 clear hb0 zb h0 hp
 go_enter Tryz.func58,Tryz.ntmps58
 go_wp2_with fail
 refine HP.out.mono ?_
 rintro e w1 ⟨cv,rfl,ho,hb⟩
 obtain⟨ad,cap,rfl⟩:=own_sl ho
 have HB:=Lib.hid (bt2 HB0.out hb)
 have HO:=Lib.hid ho
 have zb1:=ZB.out.below hb ZB.out.lt
 have z0:=zb1.cell 0
 have y0:=zb1.frozen 0
 have z1:=zb1.cell 1
 have y1:=zb1.frozen 1
 have zl:=zb1.lt
 simp only[List.getElem?_toArray,List.getElem?_cons_zero,List.getElem?_cons_succ] at z0 z1
 have hend:=fun o=>inner_end2 zb1 HB.out (.string ⟨x.name.toArray⟩) (.slice ad x.cols.length cap) o
 have HE:=Lib.hid hend
 clear hb ho zb1 ZB HP HB0 HB hend
 go_wp2_with fail
 refine bodyPost_ret (v:=.agg #[.string ⟨x.name.toArray⟩,.slice ad x.cols.length cap]) (by simp [results,Tryz.results58,go_sem, *]) rfl ⟨_,rfl,⟨_,rfl,(HE.out _).1.ownsRow (World.ownsRow.low HO.out (by simp)) (by decide)⟩,(HE.out _).2⟩
set_option maxHeartbeats 8000000 in
set_option maxRecDepth 100000 in
theorem cmd_oneP {K:Int} (s:ByteArray) (w:World) (t:Tok) (c:List Tok) (hgw:∀ W,Below w.heap.size w W->WordsAt W)
 (hop:∀ W,Below w.heap.size w W->Calls Tryz.prog 54 #[.string s] W fun e w'=>∃ r vt,e=.returned (.pointer (some ⟨r,0,none⟩))/\W.heap.size<=r/\Rs w' r (t::c) vt/\Below W.heap.size W w')
 (hk:kindC t=K) (h0p:0<=t.p) (h1p:t.p+(⟨t.x.toArray⟩:ByteArray).size<=281474976710656)
 (K14:K=1∨K=4)
 (fr:Nat) (hfr:(fr:Int)=t.p+(⟨t.x.toArray⟩:ByteArray).size) (hfs:fr<=s.size) (hss:s.size<=281474976710656)
 (xS:Rln) (ppS:K=1->∀ W,Below w.heap.size w W->Calls Tryz.prog 59 #[.string (s.extract fr s.size)] W (SPost W (.ok xS [])))
 (xB:List Chg) (ppB:K=4->∀ W,Below w.heap.size w W->Calls Tryz.prog 63 #[.string (s.extract fr s.size)] W (BPost W (.ok xB []))) :
 Calls Tryz.prog 22 #[.string s] w (CmdPost w (.ok (if K=1 then { cmd0 with kind:=1,rel:=xS } else { cmd0 with kind:=4,b:=xB }) [])):=by
 have hmf:∀ (fn:Fn) (first cap:Array Value) (w:World),(Instr.makeFunc fn first cap).run Tryz.prog w=.ok (.func fn first cap) w:=fun _ _ _ _=>rfl
 have hps:=PCm.start w
 have ho:=hop _ hps.b
 have HPS:=Lib.hid hps
 have HO:=Lib.hid ho
 have HGW:=Lib.hid hgw
 have HKD:=Lib.hid (fun W hW=>kindOf_any t W hW)
 rw[hk] at HKD
 have hk1:t.k=1:=kindC_one (by rw[hk];omega)
 have hK0b:(K == 0)=false:=by rcases K14 with rfl | rfl<;>rfl
 have htk0:∀ (W:World) (r:Nat) (vt:Value),Rs W r (t::c) vt->w.heap.size+3<=r->Calls Tryz.prog 57 #[.pointer (some ⟨r,0,none⟩),.int .i64 1,.slice none 0 0] W (PPost (fun t c' v w'=>v=t.v/\Rs w' r c' vt) (w.heap.size+3) [213] W (tk 1 [] (t::c))):=fun W r vt h hB=>take_rs (B:=w.heap.size+3) (Ts:=[213]) h 1 [] _ (tx_nil _) hB (by simp)
 have htt:tk 1 [] (t::c)=.ok t c:=by
  unfold tk
  simp [hk1]
 rw[htt] at htk0
 clear htt
 have HTK0:=Lib.hid htk0
 obtain⟨RES,hRES⟩:∃ RES:Cmd,(if K=1 then { cmd0 with kind:=1,rel:=xS } else { cmd0 with kind:=4,b:=xB })=RES:=⟨_,rfl⟩
 rw[hRES]
 have HRES:=Lib.hid hRES
 clear hRES
 have PPS:=Lib.hid ppS
 have PPB:=Lib.hid ppB
 clear hps ho hop hgw htk0 hk hk1 ppS ppB
 obtain⟨tkk,x,vk,vn,vs,tp⟩:=t
 simp only at h0p h1p
 unfold Tok.v at HKD HTK0
 generalize hxb:(⟨x.toArray⟩:ByteArray)=xb at *
 generalize hvb:(⟨vs.toArray⟩:ByteArray)=vb at *
 have HXB:=Lib.hid (And.intro hxb hvb)
 clear hxb hvb
 simp only at HKD
 go_enter_defers Tryz.func22,Tryz.ntmps22
 go_wp2_with fail
 refine HO.out.mono ?_
 rintro e w1 ⟨r,vt,rfl,hr,hrs,hb⟩
 have hp:=HPS.out.keep hb
 have hrB:w.heap.size+3<=r:=by simp at hr;omega
 have bk:Below w1.heap.size w1 (w1.alloc (.cells #[.pointer (some ⟨r,0,none⟩)] 118)):=balloc (Below.refl _ _) _
 have hp1:=hp.keep bk
 have hi1:InB (w1.alloc (.cells #[.pointer (some ⟨r,0,none⟩)] 118)) w1.heap.size r:=Blk.new _ _ _
 have hr1:=hrs.keep bk
 have hpk:=peek_rs hr1
 have hbB:w.heap.size+3<=w1.heap.size:=hp.s
 have x0:=Blk.cell hi1 0
 have xl:=Blk.lt hi1
 simp only[List.getElem?_toArray,List.getElem?_cons_zero] at x0
 unfold Tok.v at hpk
 simp only[HXB.out.1,HXB.out.2] at hpk
 obtain⟨W2,hW2⟩:∃ W2,w1.alloc (.cells #[.pointer (some ⟨r,0,none⟩)] 118)=W2:=⟨_,rfl⟩
 rw[hW2] at hpk hp1 hi1 hr1 x0 xl
 have HW2:=Lib.hid hW2
 have HPK:=Lib.hid hpk
 have HP1:=Lib.hid hp1
 have HI1:=Lib.hid hi1
 have HR1:=Lib.hid hr1
 clear hb hp hrs bk hp1 hi1 hr1 hpk hr hW2 HPS HO
 go_wp2_with fail
 rw[HW2.out]
 refine HPK.out.mono ?_
 rintro e w2 ⟨rfl,hb2⟩
 have bx:=Blk.new w2 122 #[.int .i64 tkk,.string xb,.int .i64 vk,.int .i64 vn,.string vb,.int .i64 tp]
 have bk2:Below w2.heap.size w2 (w2.alloc (.cells #[.int .i64 tkk,.string xb,.int .i64 vk,.int .i64 vn,.string vb,.int .i64 tp] 122)):=balloc (Below.refl _ _) _
 have hf:CF w (w2.alloc (.cells #[.int .i64 tkk,.string xb,.int .i64 vk,.int .i64 vn,.string vb,.int .i64 tp] 122)) #[.int .i64 0,.string ⟨#[]⟩,.slice none 0 0,.string ⟨#[]⟩,.slice none 0 0,.slice none 0 0,.slice none 0 0,.string ⟨#[]⟩,.int .i64 0,.int .i64 0,.slice none 0 0] w1.heap.size w2.heap.size r (⟨tkk,x,vk,vn,vs,tp⟩::c) vt tkk vk vn tp xb vb:=⟨(HP1.out.keep hb2).keep bk2,(Blk.below HI1.out hb2 (Blk.lt HI1.out)).below bk2 (by have:=hb2.size;omega),bx,(HR1.out.keep hb2).keep bk2,hrB,hbB,Nat.le_trans hbB (Nat.le_trans (Nat.le_of_lt xl) hb2.size)⟩
 have hkd:=HKD.out _ (HGW.out _ (hf.p.b))
 obtain⟨W3,hW3⟩:∃ W3,w2.alloc (.cells #[.int .i64 tkk,.string xb,.int .i64 vk,.int .i64 vn,.string vb,.int .i64 tp] 122)=W3:=⟨_,rfl⟩
 rw[hW3] at hf hkd
 have HW3:=Lib.hid hW3
 have HKD3:=Lib.hid hkd
 have HF3:=Lib.hid hf
 have z0:=hf.k.cell 0
 have z1:=hf.k.cell 1
 have z2:=hf.k.cell 2
 have z3:=hf.k.cell 3
 have z4:=hf.k.cell 4
 have z5:=hf.k.cell 5
 have zl:=hf.k.lt
 simp only[List.getElem?_toArray,List.getElem?_cons_zero,List.getElem?_cons_succ] at z0 z1 z2 z3 z4 z5
 clear bx bk2 hb2 hkd hf hW3 x0 xl HPK HP1 HI1 HR1 HKD HGW HW2
 go_upto_region 4 with fail
 rw[HW3.out]
 go_wp2_with fail
 refine HKD3.out.mono ?_
 rintro e w4 ⟨rfl,hb4⟩
 have hf4:=HF3.out.keep hb4
 have x0:=Blk.cell hf4.i 0
 have xl:=Blk.lt hf4.i
 have pl:=hf4.p.q.lt
 have k0:=hf4.p.q.cell 0
 have y0:=hf4.p.q.frozen 0
 have z1:=hf4.k.cell 1
 have z5:=hf4.k.cell 5
 have zl:=hf4.k.lt
 simp only[List.getElem?_toArray,List.getElem?_cons_zero,List.getElem?_cons_succ] at x0 k0 z1 z5
 have hf5:CF w (w4.setCell ⟨w.heap.size,0,none⟩ (.int .i64 K)) #[.int .i64 K,.string ⟨#[]⟩,.slice none 0 0,.string ⟨#[]⟩,.slice none 0 0,.slice none 0 0,.slice none 0 0,.string ⟨#[]⟩,.int .i64 0,.int .i64 0,.slice none 0 0] w1.heap.size w2.heap.size r (⟨tkk,x,vk,vn,vs,tp⟩::c) vt tkk vk vn tp xb vb:=hf4.store 0 (.int .i64 K)
 have HF5:=Lib.hid hf5
 clear hf4 hf5 hb4 HF3 HKD3 HW3 z0 z2 z3 z4
 have htk:=HTK0.out _ r vt HF5.out.rs hrB
 have HTK:=Lib.hid htk
 clear htk HTK0
 have xl5:=Blk.lt HF5.out.i
 go_wp2_with fail
 refine HTK.out.mono ?_
 rintro e w6 ⟨v6,rfl,⟨rfl,hr6⟩,hm6⟩
 have hf6:=HF5.out.take hm6 hr6
 have HF6:=Lib.hid hf6
 clear hm6 hr6 hf6 x0 xl pl k0 y0 z1 z5 zl xl5 HTK HF5
 have x0:=Blk.cell HF6.out.i 0
 have xl:=Blk.lt HF6.out.i
 have pl:=HF6.out.p.q.lt
 have k0:=HF6.out.p.q.cell 0
 have y0:=HF6.out.p.q.frozen 0
 have z1:=HF6.out.k.cell 1
 have z5:=HF6.out.k.cell 5
 have zl:=HF6.out.k.lt
 simp only[List.getElem?_toArray,List.getElem?_cons_zero,List.getElem?_cons_succ] at x0 k0 z1 z5
 rcases K14 with rfl | rfl
 ·have hin:=innS_ok s fr _ xS hfs hss (fun W hW=>PPS.out rfl W (HF6.out.p.b.trans (hW.mono (by have:=HF6.out.p.s;omega))))
  rw[hfr] at hin
  have HIN:=Lib.hid hin
  have HFR:=Lib.hid hfr
  have hre:=HRES.out
  rw[if_pos rfl] at hre
  subst hre
  clear HRES
  clear hin hfs hss hfr
  go_wp2_with fail
  refine HIN.out.mono ?_
  rintro e w7 ⟨v,rfl,hR,hb7⟩
  clear HIN HFR
  obtain⟨cv,rfl,ho⟩:=hR
  obtain⟨ad,cap,rfl⟩:=own_sl ho
  have hf7:=HF6.out.keep hb7
  have hsz:w.heap.size<=w6.heap.size:=by have:=HF6.out.p.s;omega
  clear hb7 HF6 x0 xl pl k0 y0 z1 z5 zl
  have mm1:MT 0 [61] w7 (w7.setCell ⟨w.heap.size,1,none⟩ (.string ⟨xS.name.toArray⟩)):=MT.setCell (MT.refl w7) hf7.p.q (by simp) (Nat.zero_le _) _
  have hh1:CF w (w7.setCell ⟨w.heap.size,1,none⟩ (.string ⟨xS.name.toArray⟩)) #[_,.string ⟨xS.name.toArray⟩,.slice none 0 0,.string ⟨#[]⟩,.slice none 0 0,.slice none 0 0,.slice none 0 0,.string ⟨#[]⟩,.int .i64 0,.int .i64 0,.slice none 0 0] w1.heap.size w2.heap.size r c vt tkk vk vn tp xb vb:=hf7.store 1 (.string ⟨xS.name.toArray⟩)
  have mm2:MT 0 [61] w7 ((w7.setCell ⟨w.heap.size,1,none⟩ (.string ⟨xS.name.toArray⟩)).setCell ⟨w.heap.size,2,none⟩ (.slice ad xS.cols.length cap)):=MT.setCell (mm1) hh1.p.q (by simp) (Nat.zero_le _) _
  have hh2:CF w ((w7.setCell ⟨w.heap.size,1,none⟩ (.string ⟨xS.name.toArray⟩)).setCell ⟨w.heap.size,2,none⟩ (.slice ad xS.cols.length cap)) #[_,.string ⟨xS.name.toArray⟩,.slice ad xS.cols.length cap,.string ⟨#[]⟩,.slice none 0 0,.slice none 0 0,.slice none 0 0,.string ⟨#[]⟩,.int .i64 0,.int .i64 0,.slice none 0 0] w1.heap.size w2.heap.size r c vt tkk vk vn tp xb vb:=hh1.store 2 (.slice ad xS.cols.length cap)
  have HMS:=Lib.hid (And.intro mm2 (And.intro ho hsz))
  have HF9:=Lib.hid hh2
  have x0:=Blk.cell hf7.i 0
  have xl:=Blk.lt hf7.i
  have pl:=hf7.p.q.lt
  have k0:=hf7.p.q.cell 0
  have y0:=hf7.p.q.frozen 0
  have k1:=hf7.p.q.cell 1
  have y1:=hf7.p.q.frozen 1
  have k2:=hf7.p.q.cell 2
  have y2:=hf7.p.q.frozen 2
  have k3:=hf7.p.q.cell 3
  have y3:=hf7.p.q.frozen 3
  have k4:=hf7.p.q.cell 4
  have y4:=hf7.p.q.frozen 4
  have k5:=hf7.p.q.cell 5
  have y5:=hf7.p.q.frozen 5
  have k6:=hf7.p.q.cell 6
  have y6:=hf7.p.q.frozen 6
  have k7:=hf7.p.q.cell 7
  have y7:=hf7.p.q.frozen 7
  have k8:=hf7.p.q.cell 8
  have y8:=hf7.p.q.frozen 8
  have k9:=hf7.p.q.cell 9
  have y9:=hf7.p.q.frozen 9
  have k10:=hf7.p.q.cell 10
  have y10:=hf7.p.q.frozen 10
  have ka:=hf7.p.a.cell 0
  have yka:=hf7.p.a.frozen 0
  have lka:=hf7.p.a.lt
  have ke:=hf7.p.e.cell 0
  have yke:=hf7.p.e.frozen 0
  have lke:=hf7.p.e.lt
  simp only[List.getElem?_toArray,List.getElem?_cons_zero,List.getElem?_cons_succ] at x0 k0 k1 k2 k3 k4 k5 k6 k7 k8 k9 k10 ka ke
  clear hf7 ho hsz mm1 hh1 mm2 hh2
  go_wp2_with fail
  rw[HF9.out.p.self]
  exact cmd_exit HF9.out.p rfl rfl rfl ⟨_,rfl,⟨_,_,_,_,_,rfl,(HMS.out.1.ownsRow (World.ownsRow.low HMS.out.2.1 HMS.out.2.2) (by decide)),World.ownsRow_nil _ _ _ _,atoms_nil _ _,chgs_nil _ _,World.ownsRow_nil _ _ _ _⟩,HF9.out.p.b⟩
 ·have hin:=innB_ok s fr _ xB hfs hss (fun W hW=>PPB.out rfl W (HF6.out.p.b.trans (hW.mono (by have:=HF6.out.p.s;omega))))
  rw[hfr] at hin
  have HIN:=Lib.hid hin
  have HFR:=Lib.hid hfr
  have hre:=HRES.out
  rw[if_neg (by decide)] at hre
  subst hre
  clear HRES
  clear hin hfs hss hfr
  go_wp2_with fail
  refine HIN.out.mono ?_
  rintro e w7 ⟨v,rfl,hR,hb7⟩
  clear HIN HFR
  have ho:=hR
  obtain⟨_,hsl,_⟩:=hR
  obtain⟨ad,cap,rfl⟩:=own_sl hsl
  clear hsl
  have hf7:=HF6.out.keep hb7
  have hsz:w.heap.size<=w6.heap.size:=by have:=HF6.out.p.s;omega
  clear hb7 HF6 x0 xl pl k0 y0 z1 z5 zl
  have mm6:MT 0 [61] w7 (w7.setCell ⟨w.heap.size,6,none⟩ (.slice ad xB.length cap)):=MT.setCell (MT.refl w7) hf7.p.q (by simp) (Nat.zero_le _) _
  have hh6:CF w (w7.setCell ⟨w.heap.size,6,none⟩ (.slice ad xB.length cap)) #[_,.string ⟨#[]⟩,.slice none 0 0,.string ⟨#[]⟩,.slice none 0 0,.slice none 0 0,.slice ad xB.length cap,.string ⟨#[]⟩,.int .i64 0,.int .i64 0,.slice none 0 0] w1.heap.size w2.heap.size r c vt tkk vk vn tp xb vb:=hf7.store 6 (.slice ad xB.length cap)
  have HMS:=Lib.hid (And.intro mm6 (And.intro ho hsz))
  have HF9:=Lib.hid hh6
  have x0:=Blk.cell hf7.i 0
  have xl:=Blk.lt hf7.i
  have pl:=hf7.p.q.lt
  have k0:=hf7.p.q.cell 0
  have y0:=hf7.p.q.frozen 0
  have k1:=hf7.p.q.cell 1
  have y1:=hf7.p.q.frozen 1
  have k2:=hf7.p.q.cell 2
  have y2:=hf7.p.q.frozen 2
  have k3:=hf7.p.q.cell 3
  have y3:=hf7.p.q.frozen 3
  have k4:=hf7.p.q.cell 4
  have y4:=hf7.p.q.frozen 4
  have k5:=hf7.p.q.cell 5
  have y5:=hf7.p.q.frozen 5
  have k6:=hf7.p.q.cell 6
  have y6:=hf7.p.q.frozen 6
  have k7:=hf7.p.q.cell 7
  have y7:=hf7.p.q.frozen 7
  have k8:=hf7.p.q.cell 8
  have y8:=hf7.p.q.frozen 8
  have k9:=hf7.p.q.cell 9
  have y9:=hf7.p.q.frozen 9
  have k10:=hf7.p.q.cell 10
  have y10:=hf7.p.q.frozen 10
  have ka:=hf7.p.a.cell 0
  have yka:=hf7.p.a.frozen 0
  have lka:=hf7.p.a.lt
  have ke:=hf7.p.e.cell 0
  have yke:=hf7.p.e.frozen 0
  have lke:=hf7.p.e.lt
  simp only[List.getElem?_toArray,List.getElem?_cons_zero,List.getElem?_cons_succ] at x0 k0 k1 k2 k3 k4 k5 k6 k7 k8 k9 k10 ka ke
  clear hf7 ho hsz mm6 hh6
  go_wp2_with fail
  rw[HF9.out.p.self]
  exact cmd_exit HF9.out.p rfl rfl rfl ⟨_,rfl,⟨_,_,_,_,_,rfl,World.ownsRow_nil _ _ _ _,World.ownsRow_nil _ _ _ _,atoms_nil _ _,((HMS.out.2.1.low HMS.out.2.2).mt HMS.out.1 (by decide) (by decide)),World.ownsRow_nil _ _ _ _⟩,HF9.out.p.b⟩
def lnR:ByteArray:=⟨#[114,101,108,32,80,40,41]⟩
def lnB:ByteArray:=⟨#[98,97,116,99,104,32,43,80,40,41]⟩
theorem cmd_P1 (w:World) (hg:GlobW w):Calls Tryz.prog 22 #[.string lnR] w (CmdPost w (.ok { cmd0 with kind:=1,rel:=⟨[80],[]⟩ } [])):=by
 refine cmd_oneP (K:=1) lnR w ⟨1,[114,101,108],0,0,[],0⟩ [⟨1,[80],0,0,[],4⟩,⟨3,[40],0,0,[],5⟩,⟨3,[41],0,0,[],6⟩,endTok 7] (fun W hW=>hg.v.below hW) (fun W hW=>open_few lnR W _ (by decide) (hg.g.below hW) (by kernel_rfl) (by kernel_rfl) (by kernel_rfl) ?_ (by decide)) (by kernel_rfl) (by decide) (by decide) (.inl rfl) 3 (by decide) (by decide) (by decide) ⟨[80],[]⟩ (fun _ W hW=>?_) [] (fun h=>by cases h)
 ·simp [Ended,endTok]
 ·refine sch_P (lnR.extract 3 lnR.size) W ⟨1,[80],0,0,[],1⟩ ⟨3,[40],0,0,[],2⟩ ⟨3,[41],0,0,[],3⟩ (endTok 4) (fun W' hW'=>open_few _ W' _ (by decide) (hg.g.below (hW.trans (hW'.mono hW.size))) (by kernel_rfl) (by kernel_rfl) (by kernel_rfl) ?_ (by decide)) rfl rfl rfl rfl rfl
  simp [Ended,endTok]
theorem cmd_P4 (w:World) (hg:GlobW w):Calls Tryz.prog 22 #[.string lnB] w (CmdPost w (.ok { cmd0 with kind:=4,b:=[⟨true,[80],[]⟩] } [])):=by
 refine cmd_oneP (K:=4) lnB w ⟨1,[98,97,116,99,104],0,0,[],0⟩ [⟨3,[43],0,0,[],6⟩,⟨1,[80],0,0,[],7⟩,⟨3,[40],0,0,[],8⟩,⟨3,[41],0,0,[],9⟩,endTok 10] (fun W hW=>hg.v.below hW) (fun W hW=>open_few lnB W _ (by decide) (hg.g.below hW) (by kernel_rfl) (by kernel_rfl) (by kernel_rfl) ?_ (by decide)) (by kernel_rfl) (by decide) (by decide) (.inr rfl) 5 (by decide) (by decide) (by decide) ⟨[],[]⟩ (fun h=>by cases h) [⟨true,[80],[]⟩] (fun _ W hW=>?_)
 ·simp [Ended,endTok]
 ·refine batch_P (lnB.extract 5 lnB.size) W ⟨3,[43],0,0,[],1⟩ ⟨1,[80],0,0,[],2⟩ ⟨3,[40],0,0,[],3⟩ ⟨3,[41],0,0,[],4⟩ (endTok 5) (fun W' hW'=>open_few _ W' _ (by decide) (hg.g.below (hW.trans (hW'.mono hW.size))) (by kernel_rfl) (by kernel_rfl) (by kernel_rfl) ?_ (by decide)) (by decide) rfl rfl rfl rfl rfl rfl rfl
  simp [Ended,endTok]
end Go.Proofs.YtgopfpjinohncaaGreatDoor
