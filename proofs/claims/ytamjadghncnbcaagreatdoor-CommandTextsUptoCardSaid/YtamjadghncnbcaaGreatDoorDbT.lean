/- command.name, command.number, walked. command.kindOf, walked. command.inner, walked at its three instances. reader.Some, reader.List at osier/api.Value, walked (printed by lst.py). command's small functions, walked: the literals' closure. -/
import Derived.Test.YtamjadghncnbcaaGreatDoorDaT
import Derived.Test.YtamjadghncnbcaaGreatDoorGaT
import Derived.Test.YtamjadghncnbcaaGreatDoorBaT
import Derived.Test.YtamjadghncnbcaaGreatDoorKdT
import Derived.Deep.RegionLaw
import Derived.BigQuiet
import Derived.Laws.Rows
namespace Go.Proofs.YtamjadghncnbcaaGreatDoor
open Go.RowKit
set_option linter.unusedVariables false
theorem numP_ok {t:Tok} {r:List Tok} (h1:t.k=2) (h2:t.vk=1):numP (t::r)=.ok t.vn r:=by
 unfold numP tk
 simp [h1,h2]
theorem numP_bad {t:Tok} {r:List Tok} (h:¬ (t.k=2/\t.vk=1)):numP (t::r)=.bad t.p 80:=by
 unfold numP
 exact if_neg h
set_option maxHeartbeats 4000000 in
set_option maxRecDepth 100000 in
theorem cnum_any {w:World} {r:Nat} {c:List Tok} {vt:Value} {B:Nat} (h:Rs w r c vt) (hB:B<=r) (hw:B<=w.heap.size) :
 Calls Tryz.prog 48 #[.pointer (some ⟨r,0,none⟩)] w (PPost (fun x c' v w'=>v=.int .i64 x/\Rs w' r c' vt) B [177] w (numP c)):=by
 obtain⟨t,c1,rfl⟩:=h.ended.some
 have hpk:=peek_rs h
 have htk:=fun W (hW:Below w.heap.size w W)=>take_rs (B:=B) (Ts:=[177]) (h.keep hW) 2 [] _ (tx_nil _) hB (by simp)
 have hbd:=fun (q:¬ (t.k=2/\t.vk=1))=>numP_bad (r:=c1) q
 have hgd:=fun (q:t.k=2) (q2:t.vk=1)=>numP_ok (r:=c1) q q2
 have htt:t.k=2->tk 2 [] (t::c1)=.ok t c1:=fun q=>by
  unfold tk
  simp [q]
 have HPK:=Lib.hid hpk
 have HTK:=Lib.hid htk
 have HBD:=Lib.hid hbd
 have HGD:=Lib.hid hgd
 have HTT:=Lib.hid htt
 obtain⟨RES,hRES⟩:∃ RES,numP (t::c1)=RES:=⟨_,rfl⟩
 rw[hRES] at HBD HGD ⊢
 clear h hpk htk hbd hgd htt hRES
 unfold Tok.v at HPK
 obtain⟨tkk,x,vk,vn,vs,tp⟩:=t
 simp only at *
 generalize (⟨x.toArray⟩:ByteArray)=xb at *
 generalize (⟨vs.toArray⟩:ByteArray)=vb at *
 by_cases h1:tkk=2
 ·subst h1
  by_cases h2:vk=1
  ·subst h2
   have hr:=HGD.out rfl rfl
   subst hr
   have htk2:=HTK.out
   rw[HTT.out rfl] at htk2
   have HTK2:=Lib.hid htk2
   clear HBD HGD HTK HTT htk2
   go_enter Tryz.func48,Tryz.ntmps48
   go_wp2_with fail
   refine HPK.out.mono ?_
   rintro e w1 ⟨rfl,hb1⟩
   have bx:=Blk.new w1 84 #[.int .i64 2,.string xb,.int .i64 1,.int .i64 vn,.string vb,.int .i64 tp]
   have hbx:Below w1.heap.size w1 (w1.alloc (.cells #[.int .i64 2,.string xb,.int .i64 1,.int .i64 vn,.string vb,.int .i64 tp] 84)):=balloc (Below.refl _ _) _
   obtain⟨W1,hW1⟩:∃ W1,w1.alloc (.cells #[.int .i64 2,.string xb,.int .i64 1,.int .i64 vn,.string vb,.int .i64 tp] 84)=W1:=⟨_,rfl⟩
   rw[hW1] at bx hbx
   have x0:=bx.cell 0
   have x2:=bx.cell 2
   have xl:=bx.lt
   simp only[List.getElem?_toArray,List.getElem?_cons_zero,List.getElem?_cons_succ] at x0 x2
   have hb01:=bt2 hb1 hbx
   have HT2:=Lib.hid (HTK2.out W1 hb01)
   have HBX:=Lib.hid bx
   have HB01:=Lib.hid hb01
   have HW1:=Lib.hid hW1
   clear bx hbx hb01 hb1 hW1 HTK2 HPK
   go_upto_region 2 with fail
   rw[HW1.out]
   go_wp2_with fail
   refine HT2.out.mono ?_
   rintro e w5 ⟨v5,rfl,⟨rfl,hr5⟩,hm5⟩
   have bx5:=HBX.out.mt hm5 (by decide)
   have y3:=bx5.cell 3
   have yl:=bx5.lt
   simp only[List.getElem?_toArray,List.getElem?_cons_zero,List.getElem?_cons_succ] at y3
   have HR5:=Lib.hid hr5
   have HM5:=Lib.hid ((MT.ofBelow (B:=B) (Ts:=[177]) HB01.out).trans hm5)
   clear hr5 hm5 bx5 x0 x2 xl HT2
   go_wp2_with fail
   go_ret
   exact⟨_,rfl,⟨rfl,HR5.out⟩,HM5.out⟩
  ·have hr:=HBD.out (fun q=>h2 q.2)
   subst hr
   have hne:(vk != 1)=true:=by simpa using h2
   clear HBD HGD HTK HTT h2
   go_enter Tryz.func48,Tryz.ntmps48
   go_wp2_with fail
   refine HPK.out.mono ?_
   rintro e w1 ⟨rfl,hb1⟩
   have HB1:=Lib.hid (balloc hb1 (.cells #[.int .i64 2,.string xb,.int .i64 vk,.int .i64 vn,.string vb,.int .i64 tp] 84))
   clear hb1 HPK
   go_wp2_with fail
   exact⟨rfl,rfl,MT.ofBelow HB1.out⟩
 ·have hr:=HBD.out (fun q=>h1 q.1)
  subst hr
  have hne:(tkk != 2)=true:=by simpa using h1
  clear HBD HGD HTK HTT h1
  go_enter Tryz.func48,Tryz.ntmps48
  go_wp2_with fail
  refine HPK.out.mono ?_
  rintro e w1 ⟨rfl,hb1⟩
  have HB1:=Lib.hid (balloc hb1 (.cells #[.int .i64 tkk,.string xb,.int .i64 vk,.int .i64 vn,.string vb,.int .i64 tp] 84))
  clear hb1 HPK
  go_wp2_with fail
  exact⟨rfl,rfl,MT.ofBelow HB1.out⟩
set_option maxHeartbeats 4000000 in
set_option maxRecDepth 100000 in
theorem kindOf_of (wa:Array Value) (hsz:(Tryz.prog.info? 117).map (·.size)=some wa.size) (hixa:∀ (w:World) (k:Nat),k<19->(Instr.index 117 (.agg wa) (.int .i64 (k:Int))).run Tryz.prog w=.ok (.string ⟨(wordsW.getD k []).toArray⟩) w) (t:Tok) (w:World) (tt:TypeId) (ff:Nat × Nat) (hw:w.heap[0]? = some (.cells wa tt ff)):Calls Tryz.prog 42 #[t.v] w fun e w'=>e=.returned (.int .i64 (kindC t))/\Below w.heap.size w w':=by
 have hb0:Below w.heap.size w (w.alloc (.cells t.cells.toArray 84)):=balloc (Below.refl _ _) _
 have bx:=Blk.new w 84 t.cells.toArray
 have hk:(w.alloc (.cells t.cells.toArray 84)).heap[0]? = some (.cells wa tt ff):=(Below.heap_alloc w _ _ (Array.getElem?_eq_some_iff.1 hw).1).trans hw
 have HNO:=Lib.hid (fun (h:t.k≠1)=>kindC_name h)
 have HHIT:=Lib.hid (fun k (h1:k<19) (h2:t.k=1) (h3:wordsW.getD k []=t.x)=>kindC_at h1 h2 h3)
 have HMISS:=Lib.hid (fun (h:∀ k,k<19->wordsW.getD k []≠t.x)=>kindC_none h)
 obtain⟨K,hK⟩:∃ K,kindC t=K:=⟨_,rfl⟩
 rw[hK] at HNO HMISS ⊢
 simp only[hK] at HHIT
 clear hK
 obtain⟨tk,x,vk,vn,vt,tp⟩:=t
 unfold Tok.cells at hb0 bx hk
 unfold Tok.v
 simp only at HNO HHIT HMISS hb0 bx hk ⊢
 have x0:=bx.cell 0
 have x1:=bx.cell 1
 have xl:=bx.lt
 simp only[List.getElem?_toArray,List.getElem?_cons_zero,List.getElem?_cons_succ] at x0 x1
 obtain⟨W0,hW0⟩:∃ W0,w.alloc (.cells (List.toArray [.int .i64 tk,.string ⟨x.toArray⟩,.int .i64 vk,.int .i64 vn,.string ⟨vt.toArray⟩,.int .i64 tp]) 84)=W0:=⟨_,rfl⟩
 rw[hW0] at hb0 x0 x1 xl hk
 have HW0:=Lib.hid hW0
 have HB0:=Lib.hid hb0
 have HV:=Lib.hid hk
 have HIX:=Lib.hid hixa
 clear hixa hw
 clear hb0 bx hk hW0
 generalize hxb:(⟨x.toArray⟩:ByteArray)=xb at *
 have HXB:=Lib.hid hxb
 clear hxb
 by_cases h1:tk=1
 ·subst h1
  have HH:=Lib.hid (fun k hk hx=>HHIT.out k hk rfl hx)
  clear HNO HHIT
  go_enter Tryz.func42,Tryz.ntmps42
  go_upto_region 1 with fail
  rw[HW0.out]
  go_wp2_with (refine wpList_load_row rfl 117 _ rfl 0 rfl tt wa ff _ HV.out Tryz.underlying117 rfl hsz ?_)
  go_loopw [9] (fun iv wr=>∃ k:Nat,k<=19/\iv=.int .i64 k/\Hid (wr=W0)/\Hid (∀ j,j<k->wordsW.getD j []≠x)) (fun iv _=>19 - (intOf iv).toNat)
  case atStart=>exact⟨0,Nat.zero_le _,rfl,Lib.hid rfl,Lib.hid (fun j hj=>by omega)⟩
  case round =>
   obtain⟨k,hk,rfl,HE,HM⟩:=hrel
   obtain rfl:=HE.out
   by_cases hlt:k<19
   ·have hix:=fun w=>HIX.out w k hlt
    obtain⟨y,hy⟩:∃ y,wordsW.getD k []=y:=⟨_,rfl⟩
    rw[hy] at hix
    have hc1:decide ((k:Int)<19)=true:=by simp;omega
    generalize hyb:(⟨y.toArray⟩:ByteArray)=yb at *
    by_cases hyx:y=x
    ·obtain rfl:xb=yb:=by rw[<-HXB.out,<-hyb,hyx]
     have hr:=HH.out k hlt (hy.trans hyx)
     subst hr
     clear hy hyb hyx HH HMISS
     go_wp2_with fail
     go_ret
     exact⟨by first | rfl | simp,HB0.out⟩
    ·have hne:¬ (yb.toList=xb.toList):=fun e=>hyx (by rw[<-HXB.out,<-hyb] at e;simpa [ByteArray.toList_eq] using e)
     have hnb:(yb.toList == xb.toList)=false:=by simpa using hne
     have hnn:∀ j,j<k+1->wordsW.getD j []≠x:=fun j hj e=>by
      rcases Nat.lt_or_ge j k with h | h
      ·exact HM.out j h e
      ·obtain rfl:j=k:=by omega
       exact hyx (hy.symm.trans e)
     have HNN:=Lib.hid hnn
     clear hy hyb hyx hnn
     go_wp2_with fail
     go_roundw
     case rel=>exact⟨k+1,by omega,by go_num,Lib.hid trivial,HNN⟩
     case measure=>simp [intOf];omega
   ·obtain rfl:k=19:=by omega
    have hr:=HMISS.out HM.out
    subst hr
    go_wp2_with fail
    go_ret
    exact⟨by first | rfl | simp,HB0.out⟩
 ·have hr:=HNO.out h1
  subst hr
  have hne:(tk == 1)=false:=by simpa using h1
  clear HNO HHIT HMISS h1
  go_enter Tryz.func42,Tryz.ntmps42
  go_upto_region 1 with fail
  rw[HW0.out]
  go_wp2_with fail
  go_ret
  exact⟨by first | rfl | simp,HB0.out⟩
theorem kindOf_any (t:Tok) (w:World) (hw:WordsAt w):Calls Tryz.prog 42 #[t.v] w fun e w'=>e=.returned (.int .i64 (kindC t))/\Below w.heap.size w w' :=
 kindOf_of wordsA (by kernel_rfl) (fun w k hk=>index_words w k hk) t w _ _ hw.choose_spec.choose_spec
theorem chgs_nil (B:Nat) (w:World):ChgsOwn B w (.slice none 0 0) []:=⟨[],World.ownsRow_nil _ _ _ _,trivial⟩
theorem atoms_nil (B:Nat) (w:World):AtomsOwn B w (.slice none 0 0) []:=⟨[],World.ownsRow_nil _ _ _ _,trivial⟩
theorem AtomsOwn.low {B B':Nat} {w:World} {v:Value} {al:List Atm} (h:AtomsOwn B w v al) (hb:B'<=B):AtomsOwn B' w v al:=by
 obtain⟨rows,h1,h2⟩:=h
 exact⟨rows,World.ownsRow.low h1 hb,h2.mono fun row a ⟨tv,e,h3⟩=>⟨tv,e,World.ownsRow.low h3 hb⟩⟩
theorem AtomsOwn.mt {B B':Nat} {w w':World} {v:Value} {al:List Atm} {Ts:List TypeId} (h:AtomsOwn B w v al) (hm:MT B' Ts w w') (h1:67 ∉ Ts) (h2:71 ∉ Ts):AtomsOwn B w' v al:=by
 obtain⟨rows,h3,h4⟩:=h
 exact⟨rows,hm.ownsRow h3 h1,h4.mono fun row a ⟨tv,e,h5⟩=>⟨tv,e,hm.ownsRow h5 h2⟩⟩
end Go.Proofs.YtamjadghncnbcaaGreatDoor
