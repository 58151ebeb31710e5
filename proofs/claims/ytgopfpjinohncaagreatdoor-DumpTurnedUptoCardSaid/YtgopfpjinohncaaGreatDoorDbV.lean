/- command.inner, walked at its three instances. command.kindOf, walked. -/
import Derived.Test.YtgopfpjinohncaaGreatDoorDaV
import Derived.Test.YtgopfpjinohncaaGreatDoorKdV
import Derived.Deep.RegionLaw
import Derived.BigQuiet
import Derived.Laws.Rows
namespace Go.Proofs.YtgopfpjinohncaaGreatDoor
open Go.RowKit
set_option linter.unusedVariables false
def InnPost {α:Type} (R:Nat->World->Value->α->Prop) (z:α) (fr:Int) (w:World):PR α->Ending->World->Prop
 | .bad a f,e,w'=>(f≠0->e=.panicked [{ v:=faultV (fr+a) f,recovered:=false }])/\(f=0->∃ v,e=.returned v/\R w.heap.size w' v z)/\Below w.heap.size w w'
 | .ok x _,e,w'=>∃ v,e=.returned v/\R w.heap.size w' v x/\Below w.heap.size w w'
def RelR (B:Nat) (w:World) (v:Value) (x:Rln):Prop:=∃ cv,v=.agg #[.string ⟨x.name.toArray⟩,cv]/\ColsOwn B w cv x.cols
theorem chgs_nil (B:Nat) (w:World):ChgsOwn B w (.slice none 0 0) []:=⟨[],World.ownsRow_nil _ _ _ _,trivial⟩
theorem atoms_nil (B:Nat) (w:World):AtomsOwn B w (.slice none 0 0) []:=⟨[],World.ownsRow_nil _ _ _ _,trivial⟩
theorem inner_end2 {w w1:World} {ty:TypeId} {c0 c1:Value} (zb:Blk w1 w.heap.size ty #[c0,c1]) (hb:Below w.heap.size w w1) (v0 v1:Value) (o:Obj) :
 MT 0 [ty] w1 (((w1.setCell ⟨w.heap.size,0,none⟩ v0).setCell ⟨w.heap.size,1,none⟩ v1).alloc o)/\Below w.heap.size w (((w1.setCell ⟨w.heap.size,0,none⟩ v0).setCell ⟨w.heap.size,1,none⟩ v1).alloc o):=by
 have m1:MT 0 [ty] w1 (w1.setCell ⟨w.heap.size,0,none⟩ v0):=MT.setCell (MT.refl w1) zb (by simp) (Nat.zero_le _) _
 have z1:=zb.set_ 0 v0
 have m2:=MT.setCell m1 z1 (i:=1) (by simp) (Nat.zero_le _) v1
 exact⟨m2.trans (MT.ofBelow (balloc (Below.refl _ _) o)),balloc ((hb.setCell (Nat.le_refl _) _).setCell (Nat.le_refl _) _) o⟩
theorem atoms_sl {B:Nat} {w:World} {v:Value} {l:List Atm} (h:AtomsOwn B w v l):∃ (a:Option Addr) (cap:Nat),v=.slice a l.length cap:=by
 obtain⟨rows,h1,_⟩:=h
 exact own_sl h1
def PlaceOk {α:Type} (p:PR α):Prop:=∀ a e,p=.bad a e->0<=a/\a<=281474976710656
set_option maxHeartbeats 4000000 in
set_option maxRecDepth 100000 in
theorem innB_any (s:ByteArray) (fr:Nat) (w:World) (p:PR (List Chg)) (hfr:fr<=s.size) (hs:s.size<=281474976710656) (hr:PlaceOk p)
 (hp:∀ W,Below w.heap.size w W->Calls Tryz.prog 63 #[.string (s.extract fr s.size)] W (BPost W p)) :
 Calls Tryz.prog 62 #[.string s,.int .i64 (fr:Int),.func (.func 63) #[] #[]] w (InnPost ChgsOwn [] fr w p):=by
 have hmf:∀ (fn:Fn) (first cap:Array Value) (w:World),(Instr.makeFunc fn first cap).run Tryz.prog w=.ok (.func fn first cap) w:=fun _ _ _ _=>rfl
 have h0:=hp w (Below.refl _ _)
 have HP:=Lib.hid h0
 cases p with
 | bad a f =>
   have hra:=hr a f rfl
   clear h0 hp hr
   by_cases hf:f=0
   ·subst hf
    go_enter Tryz.func62,Tryz.ntmps62
    go_wp2_with fail
    refine HP.out.mono ?_
    rintro e w1 ⟨rfl,hb⟩
    have HB:=Lib.hid hb
    clear hb
    go_wp2_with fail
    go_ret
    exact⟨fun q=>absurd rfl q,fun _=>⟨_,rfl,chgs_nil _ _⟩,HB.out⟩
   ·have hf1:(f != 0)=true:=by simpa using hf
    go_enter Tryz.func62,Tryz.ntmps62
    go_wp2_with fail
    refine HP.out.mono ?_
    rintro e w1 ⟨rfl,hb⟩
    have HB:=Lib.hid hb
    clear hb
    go_wp2_with fail
    exact⟨rfl,fun _=>rfl,fun q=>absurd q hf,HB.out⟩
 | ok x c =>
   clear h0 hp hr
   go_enter Tryz.func62,Tryz.ntmps62
   go_wp2_with fail
   refine HP.out.mono ?_
   rintro e w1 ⟨bv,rfl,ho,hb⟩
   have HB:=Lib.hid hb
   have HO:=Lib.hid ho
   clear hb ho
   go_wp2_with fail
   go_ret
   exact⟨_,rfl,HO.out,HB.out⟩
set_option maxHeartbeats 4000000 in
set_option maxRecDepth 100000 in
theorem innS_any (s:ByteArray) (fr:Nat) (w:World) (p:PR Rln) (hfr:fr<=s.size) (hs:s.size<=281474976710656) (hr:PlaceOk p)
 (hp:∀ W,Below w.heap.size w W->Calls Tryz.prog 59 #[.string (s.extract fr s.size)] W (SPost W p)) :
 Calls Tryz.prog 58 #[.string s,.int .i64 (fr:Int),.func (.func 59) #[] #[]] w (InnPost RelR ⟨[],[]⟩ fr w p):=by
 have hb0:Below w.heap.size w (w.alloc (.cells #[.string ⟨#[]⟩,.slice none 0 0] 57)):=balloc (Below.refl _ _) _
 have zb:=Blk.new w 57 #[.string ⟨#[]⟩,.slice none 0 0]
 have h0:=hp _ hb0
 have HP:=Lib.hid h0
 have HB0:=Lib.hid hb0
 have ZB:=Lib.hid zb
 clear hb0 zb h0 hp
 cases p with
 | bad a f =>
   have hra:=hr a f rfl
   clear hr
   by_cases hf:f=0
   ·subst hf
    go_enter Tryz.func58,Tryz.ntmps58
    go_wp2_with fail
    refine HP.out.mono ?_
    rintro e w1 ⟨rfl,hb⟩
    have HB:=Lib.hid (bt2 HB0.out hb)
    have zb1:=ZB.out.below hb ZB.out.lt
    have z0:=zb1.cell 0
    have y0:=zb1.frozen 0
    have z1:=zb1.cell 1
    have y1:=zb1.frozen 1
    have zl:=zb1.lt
    simp only[List.getElem?_toArray,List.getElem?_cons_zero,List.getElem?_cons_succ] at z0 z1
    have ZB1:=Lib.hid zb1
    clear hb zb1 ZB HP HB0
    go_wp2_with fail
    have hend:=fun o=>inner_end2 ZB1.out HB.out (.string ⟨#[]⟩) (.slice none 0 0) o
    have HE:=Lib.hid hend
    clear hend ZB1 HB
    refine bodyPost_ret (v:=.agg #[.string ⟨#[]⟩,.slice none 0 0]) (by simp [results,Tryz.results58,go_sem, *]) rfl ⟨fun q=>absurd rfl q,fun _=>⟨_,rfl,⟨_,rfl,World.ownsRow_nil _ _ _ _⟩⟩,(HE.out _).2⟩
   ·have hf1:(f != 0)=true:=by simpa using hf
    go_enter Tryz.func58,Tryz.ntmps58
    go_wp2_with fail
    refine HP.out.mono ?_
    rintro e w1 ⟨rfl,hb⟩
    have HB:=Lib.hid (balloc (bt2 HB0.out hb) (.cells #[.string ⟨#[]⟩,.slice none 0 0] 57))
    clear hb HB0
    go_wp2_with fail
    exact⟨rfl,fun _=>rfl,fun q=>absurd q hf,HB.out⟩
 | ok x c =>
   clear hr
   go_enter Tryz.func58,Tryz.ntmps58
   go_wp2_with fail
   refine HP.out.mono ?_
   rintro e w1 ⟨cv,rfl,ho,hb⟩
   obtain⟨ad,cap,rfl⟩:=own_sl ho
   have HB:=Lib.hid (bt2 HB0.out hb)
   have HO:=Lib.hid ho
   have zb1:=ZB.out.below hb ZB.out.lt
   have z0:=zb1.cell 0
   have y0:=zb1.frozen 0
   have z1:=zb1.cell 1
   have y1:=zb1.frozen 1
   have zl:=zb1.lt
   simp only[List.getElem?_toArray,List.getElem?_cons_zero,List.getElem?_cons_succ] at z0 z1
   have hend:=fun o=>inner_end2 zb1 HB.out (.string ⟨x.name.toArray⟩) (.slice ad x.cols.length cap) o
   have HE:=Lib.hid hend
   clear hb ho zb1 ZB HP HB0 HB hend
   go_wp2_with fail
   refine bodyPost_ret (v:=.agg #[.string ⟨x.name.toArray⟩,.slice ad x.cols.length cap]) (by simp [results,Tryz.results58,go_sem, *]) rfl ⟨_,rfl,⟨_,rfl,(HE.out _).1.ownsRow (World.ownsRow.low HO.out (by simp)) (by decide)⟩,(HE.out _).2⟩
set_option maxHeartbeats 4000000 in
set_option maxRecDepth 100000 in
theorem kindOf_of (wa:Array Value) (hsz:(Tryz.prog.info? 138).map (·.size)=some wa.size) (hixa:∀ (w:World) (k:Nat),k<19->(Instr.index 138 (.agg wa) (.int .i64 (k:Int))).run Tryz.prog w=.ok (.string ⟨(wordsW.getD k []).toArray⟩) w) (t:Tok) (w:World) (tt:TypeId) (ff:Nat × Nat) (hw:w.heap[0]? = some (.cells wa tt ff)):Calls Tryz.prog 56 #[t.v] w fun e w'=>e=.returned (.int .i64 (kindC t))/\Below w.heap.size w w':=by
 have hb0:Below w.heap.size w (w.alloc (.cells t.cells.toArray 122)):=balloc (Below.refl _ _) _
 have bx:=Blk.new w 122 t.cells.toArray
 have hk:(w.alloc (.cells t.cells.toArray 122)).heap[0]? = some (.cells wa tt ff):=(Below.heap_alloc w _ _ (Array.getElem?_eq_some_iff.1 hw).1).trans hw
 have HNO:=Lib.hid (fun (h:t.k≠1)=>kindC_name h)
 have HHIT:=Lib.hid (fun k (h1:k<19) (h2:t.k=1) (h3:wordsW.getD k []=t.x)=>kindC_at h1 h2 h3)
 have HMISS:=Lib.hid (fun (h:∀ k,k<19->wordsW.getD k []≠t.x)=>kindC_none h)
 obtain⟨K,hK⟩:∃ K,kindC t=K:=⟨_,rfl⟩
 rw[hK] at HNO HMISS ⊢
 simp only[hK] at HHIT
 clear hK
 obtain⟨tk,x,vk,vn,vt,tp⟩:=t
 unfold Tok.cells at hb0 bx hk
 unfold Tok.v
 simp only at HNO HHIT HMISS hb0 bx hk ⊢
 have x0:=bx.cell 0
 have x1:=bx.cell 1
 have xl:=bx.lt
 simp only[List.getElem?_toArray,List.getElem?_cons_zero,List.getElem?_cons_succ] at x0 x1
 obtain⟨W0,hW0⟩:∃ W0,w.alloc (.cells (List.toArray [.int .i64 tk,.string ⟨x.toArray⟩,.int .i64 vk,.int .i64 vn,.string ⟨vt.toArray⟩,.int .i64 tp]) 122)=W0:=⟨_,rfl⟩
 rw[hW0] at hb0 x0 x1 xl hk
 have HW0:=Lib.hid hW0
 have HB0:=Lib.hid hb0
 have HV:=Lib.hid hk
 have HIX:=Lib.hid hixa
 clear hixa hw
 clear hb0 bx hk hW0
 generalize hxb:(⟨x.toArray⟩:ByteArray)=xb at *
 have HXB:=Lib.hid hxb
 clear hxb
 by_cases h1:tk=1
 ·subst h1
  have HH:=Lib.hid (fun k hk hx=>HHIT.out k hk rfl hx)
  clear HNO HHIT
  go_enter Tryz.func56,Tryz.ntmps56
  go_upto_region 1 with fail
  rw[HW0.out]
  go_wp2_with (refine wpList_load_row rfl 138 _ rfl 0 rfl tt wa ff _ HV.out Tryz.underlying138 rfl hsz ?_)
  go_loopw [9] (fun iv wr=>∃ k:Nat,k<=19/\iv=.int .i64 k/\Hid (wr=W0)/\Hid (∀ j,j<k->wordsW.getD j []≠x)) (fun iv _=>19 - (intOf iv).toNat)
  case atStart=>exact⟨0,Nat.zero_le _,rfl,Lib.hid rfl,Lib.hid (fun j hj=>by omega)⟩
  case round =>
   obtain⟨k,hk,rfl,HE,HM⟩:=hrel
   obtain rfl:=HE.out
   by_cases hlt:k<19
   ·have hix:=fun w=>HIX.out w k hlt
    obtain⟨y,hy⟩:∃ y,wordsW.getD k []=y:=⟨_,rfl⟩
    rw[hy] at hix
    have hc1:decide ((k:Int)<19)=true:=by simp;omega
    generalize hyb:(⟨y.toArray⟩:ByteArray)=yb at *
    by_cases hyx:y=x
    ·obtain rfl:xb=yb:=by rw[<-HXB.out,<-hyb,hyx]
     have hr:=HH.out k hlt (hy.trans hyx)
     subst hr
     clear hy hyb hyx HH HMISS
     go_wp2_with fail
     go_ret
     exact⟨by first | rfl | simp,HB0.out⟩
    ·have hne:¬ (yb.toList=xb.toList):=fun e=>hyx (by rw[<-HXB.out,<-hyb] at e;simpa [ByteArray.toList_eq] using e)
     have hnb:(yb.toList == xb.toList)=false:=by simpa using hne
     have hnn:∀ j,j<k+1->wordsW.getD j []≠x:=fun j hj e=>by
      rcases Nat.lt_or_ge j k with h | h
      ·exact HM.out j h e
      ·obtain rfl:j=k:=by omega
       exact hyx (hy.symm.trans e)
     have HNN:=Lib.hid hnn
     clear hy hyb hyx hnn
     go_wp2_with fail
     go_roundw
     case rel=>exact⟨k+1,by omega,by go_num,Lib.hid trivial,HNN⟩
     case measure=>simp [intOf];omega
   ·obtain rfl:k=19:=by omega
    have hr:=HMISS.out HM.out
    subst hr
    go_wp2_with fail
    go_ret
    exact⟨by first | rfl | simp,HB0.out⟩
 ·have hr:=HNO.out h1
  subst hr
  have hne:(tk == 1)=false:=by simpa using h1
  clear HNO HHIT HMISS h1
  go_enter Tryz.func56,Tryz.ntmps56
  go_upto_region 1 with fail
  rw[HW0.out]
  go_wp2_with fail
  go_ret
  exact⟨by first | rfl | simp,HB0.out⟩
theorem kindOf_any (t:Tok) (w:World) (hw:WordsAt w):Calls Tryz.prog 56 #[t.v] w fun e w'=>e=.returned (.int .i64 (kindC t))/\Below w.heap.size w w' :=
 kindOf_of wordsA (by kernel_rfl) (fun w k hk=>index_words w k hk) t w _ _ hw.choose_spec.choose_spec
end Go.Proofs.YtgopfpjinohncaaGreatDoor
