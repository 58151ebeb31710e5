/- CommandMemory, walked (printed by mkmm9.py). -/
import Derived.Test.YtamjadghncnbcaaGreatDoorWrW
import Derived.Test.YtamjadghncnbcaaGreatDoorDtW
import Derived.Test.YtamjadghncnbcaaGreatDoorDxW
import Derived.Test.YtamjadghncnbcaaGreatDoorDdW
import Derived.Test.YtamjadghncnbcaaGreatDoorTsW
import Derived.Test.YtamjadghncnbcaaGreatDoorGmW
import Derived.Deep.MidRow
namespace Go.Proofs.YtamjadghncnbcaaGreatDoor
open Go.RowKit
set_option linter.unusedVariables false
theorem cmd_uni (s:ByteArray) (w:World) (hs:s.size<=140737488351232) (hg:GlobW w):∃ (c:Cmd) (a f:Int),SmallC c /\
 (∀ W,Below w.heap.size w W->Calls Tryz.prog 13 #[.string s] W fun e W'=>∃ cells,e=.returned (.tuple #[.agg cells,.int .i64 a,.int .i64 f])/\CmdOwn W.heap.size W' cells c/\Below W.heap.size W W') /\
 (∀ W,Below w.heap.size w W->Calls Tryz.prog 14 #[.string s] W fun e W'=>∃ cells,e=.returned (.tuple #[.agg cells,.int .i64 a,.int .i64 f])/\CmdOwn W.heap.size W' cells c/\Below W.heap.size W W'):=by
 have h1:=fun W (hW:Below w.heap.size w W)=>cmd_any s W (by omega) (hg.below hW)
 have h2:=fun W (hW:Below w.heap.size w W)=>ref25_any s W (by omega) (hg.below hW).g
 have hsm:=fun x r (q:cmdT s.data.toList=.ok x r)=>cmdT_small q
 generalize cmdT s.data.toList=p at *
 cases p with
 | bad a f =>
   have hn:∀ B W,CmdOwn B W #[.int .i64 0,.string ⟨#[]⟩,.slice none 0 0,.string ⟨#[]⟩,.slice none 0 0,.slice none 0 0,.slice none 0 0,.string ⟨#[]⟩,.int .i64 0,.int .i64 0,.slice none 0 0] cmd0:=fun B W=>⟨_,_,_,_,_,rfl,World.ownsRow_nil _ _ _ _,World.ownsRow_nil _ _ _ _,atoms_nil _ _,chgs_nil _ _,World.ownsRow_nil _ _ _ _⟩
   refine⟨cmd0,a,f,small0,fun W hW=>(h1 W hW).mono ?_,fun W hW=>(h2 W hW).mono ?_⟩
   all_goals
    rintro e W' ⟨rfl,hb⟩
    exact⟨_,rfl,hn _ _,hb⟩
 | ok x r =>
   refine⟨x,0,0,hsm x r rfl,fun W hW=>(h1 W hW).mono ?_,fun W hW=>(h2 W hW).mono ?_⟩
   all_goals
    rintro e W' ⟨cells,rfl,ho,hb⟩
    exact⟨cells,rfl,ho,hb⟩
theorem CmdAt.row {w:World} {c:Cmd} {a0 a1 a2 a3 a4 a5 a6 a7 a8 a9 a10:Value} (h:CmdAt w #[a0,a1,a2,a3,a4,a5,a6,a7,a8,a9,a10] c):RowAt w a10 3 (c.row.map Vl.cells):=by
 obtain⟨cv,hv,av,bv,rv,hh,h1,h2,h3,h4,h5⟩:=h
 rw[Array.mk.injEq] at hh
 simp only[List.cons.injEq] at hh
 rw[hh.2.2.2.2.2.2.2.2.2.2.1]
 exact h5
theorem same_self (w:World) (va vb:Value) (a:List Vl) (ha:RowAt w va 3 (a.map Vl.cells)) (hb:RowAt w vb 3 (a.map Vl.cells)) :
 Calls Tryz.prog 29 #[va,vb] w fun e w'=>e=.returned (.bool true)/\Below w.heap.size w w':=by
 have h:=sameRow_any w va vb a a ha hb
 rw[show sameV a a=true from decide_eq_true rfl] at h
 exact h
set_option maxHeartbeats 16000000 in
set_option maxRecDepth 100000 in
theorem cmdmemory_law (s:ByteArray) (w:World) (hs:s.size<=140737488351232) (hg:GlobW w) :
 Calls Tryz.prog 9 #[.string s] w fun e w'=>e=.returned (.bool true)/\Below w.heap.size w w':=by
 obtain⟨c,a,f,hsm,hp,hrp⟩:=cmd_uni s w hs hg
 have HP:=Lib.hid hp
 have HRP:=Lib.hid hrp
 have HSL:=Lib.hid hsm
 have HAW:=Lib.hid (fun W (hW:Below w.heap.size w W)=>awake25 W (hg.below hW))
 clear hp hrp hsm hg
 obtain⟨ck,hck⟩:∃ ck,c.kind=ck:=⟨_,rfl⟩
 obtain⟨ci,hci⟩:∃ ci,c.id=ci:=⟨_,rfl⟩
 obtain⟨cn,hcn⟩:∃ cn,c.n=cn:=⟨_,rfl⟩
 have HK:=Lib.hid (And.intro hck (And.intro hci hcn))
 clear hck hci hcn
 go_enter Tryz.func9,Tryz.ntmps9
 go_wp2_with fail
 refine (HP.out w (Below.refl _ _)).mono ?_
 rintro e w1 ⟨cells1,rfl,hown,hb1⟩
 obtain⟨x1,x2,x3,o1,o2,o3,o4,o5,n1,l1,n2,l2,n3,l3,n4,l4,n5,l5,rfl⟩:=(hown.at HSL.out).form
 rw[HK.out.1,HK.out.2.1,HK.out.2.2] at hown ⊢
 have hq1:=Blk.new w1 34 #[.int .i64 ck,.string x1,.slice o1 n1 l1,.string x2,.slice o2 n2 l2,.slice o3 n3 l3,.slice o4 n4 l4,.string x3,.int .i64 ci,.int .i64 cn,.slice o5 n5 l5]
 have hbw:=balloc hb1 (.cells #[.int .i64 ck,.string x1,.slice o1 n1 l1,.string x2,.slice o2 n2 l2,.slice o3 n3 l3,.slice o4 n4 l4,.string x3,.int .i64 ci,.int .i64 cn,.slice o5 n5 l5] 34)
 have hb11:=balloc (Below.refl w1.heap.size w1) (.cells #[.int .i64 ck,.string x1,.slice o1 n1 l1,.string x2,.slice o2 n2 l2,.slice o3 n3 l3,.slice o4 n4 l4,.string x3,.int .i64 ci,.int .i64 cn,.slice o5 n5 l5] 34)
 obtain⟨W1,hW1⟩:∃ W1,w1.alloc (.cells #[.int .i64 ck,.string x1,.slice o1 n1 l1,.string x2,.slice o2 n2 l2,.slice o3 n3 l3,.slice o4 n4 l4,.string x3,.int .i64 ci,.int .i64 cn,.slice o5 n5 l5] 34)=W1:=⟨_,rfl⟩
 obtain⟨b3,hb3⟩:∃ b3,w1.heap.size=b3:=⟨_,rfl⟩
 rw[hW1] at hq1 hbw hb11
 rw[hb3] at hq1
 have HW1:=Lib.hid (And.intro hW1 hb3)
 have HB1:=Lib.hid hbw
 have HQ1:=Lib.hid hq1
 have HO1:=Lib.hid hown
 have HB11:=Lib.hid hb11
 clear hb1 hq1 hbw hW1 hb3 hown hb11
 go_upto_region 2 with fail
 rw[HW1.out.1,HW1.out.2]
 go_wp2_with fail
 refine (HP.out W1 HB1.out).mono ?_
 rintro e w2 ⟨cells2,rfl,hown,hb2⟩
 obtain⟨y1,y2,y3,p1,p2,p3,p4,p5,m1,e1,m2,e2,m3,e3,m4,e4,m5,e5,rfl⟩:=(hown.at HSL.out).form
 rw[HK.out.1,HK.out.2.1,HK.out.2.2] at hown ⊢
 have hq6:=Blk.new w2 34 #[.int .i64 ck,.string y1,.slice p1 m1 e1,.string y2,.slice p2 m2 e2,.slice p3 m3 e3,.slice p4 m4 e4,.string y3,.int .i64 ci,.int .i64 cn,.slice p5 m5 e5]
 have hbb:=hb2.trans (balloc (Below.refl w2.heap.size w2) (.cells #[.int .i64 ck,.string y1,.slice p1 m1 e1,.string y2,.slice p2 m2 e2,.slice p3 m3 e3,.slice p4 m4 e4,.string y3,.int .i64 ci,.int .i64 cn,.slice p5 m5 e5] 34) |>.mono hb2.size)
 have hom:=hown.modB (F:=fun _=>False) (Mod.ofBelow (balloc (Below.refl w2.heap.size w2) (.cells #[.int .i64 ck,.string y1,.slice p1 m1 e1,.string y2,.slice p2 m2 e2,.slice p3 m3 e3,.slice p4 m4 e4,.string y3,.int .i64 ci,.int .i64 cn,.slice p5 m5 e5] 34))) (fun _ q=>q.elim)
 obtain⟨W2,hW2⟩:∃ W2,w2.alloc (.cells #[.int .i64 ck,.string y1,.slice p1 m1 e1,.string y2,.slice p2 m2 e2,.slice p3 m3 e3,.slice p4 m4 e4,.string y3,.int .i64 ci,.int .i64 cn,.slice p5 m5 e5] 34)=W2:=⟨_,rfl⟩
 obtain⟨b6,hb6⟩:∃ b6,w2.heap.size=b6:=⟨_,rfl⟩
 have h36:b3<b6:=by
  rw[<-hb6]
  exact Nat.lt_of_lt_of_le HQ1.out.lt hb2.size
 rw[hW2] at hq6 hbb hom
 rw[hb6] at hq6
 have HW2:=Lib.hid (And.intro hW2 hb6)
 have HB2:=Lib.hid hbb
 have HQ6:=Lib.hid hq6
 have HO6:=Lib.hid hom
 clear hb2 hq6 hbb hom hW2 hb6 hown
 go_upto_region 3 with fail
 rw[HW2.out.1,HW2.out.2]
 go_wp2_with fail
 refine (HRP.out W2 (HB1.out.trans (HB2.out.mono HB1.out.size))).mono ?_
 rintro e w3 ⟨cells3,rfl,hown,hb3⟩
 obtain⟨z1,z2,z3,q1,q2,q3,q4,q5,h1,f1,h2,f2,h3,f3,h4,f4,h5,f5,rfl⟩:=(hown.at HSL.out).form
 rw[HK.out.1,HK.out.2.1,HK.out.2.2] at hown ⊢
 have hq9:=Blk.new w3 39 #[.int .i64 ck,.string z1,.slice q1 h1 f1,.string z2,.slice q2 h2 f2,.slice q3 h3 f3,.slice q4 h4 f4,.string z3,.int .i64 ci,.int .i64 cn,.slice q5 h5 f5]
 have hbb:=hb3.trans (balloc (Below.refl w3.heap.size w3) (.cells #[.int .i64 ck,.string z1,.slice q1 h1 f1,.string z2,.slice q2 h2 f2,.slice q3 h3 f3,.slice q4 h4 f4,.string z3,.int .i64 ci,.int .i64 cn,.slice q5 h5 f5] 39) |>.mono hb3.size)
 have hom:=hown.modB (F:=fun _=>False) (Mod.ofBelow (balloc (Below.refl w3.heap.size w3) (.cells #[.int .i64 ck,.string z1,.slice q1 h1 f1,.string z2,.slice q2 h2 f2,.slice q3 h3 f3,.slice q4 h4 f4,.string z3,.int .i64 ci,.int .i64 cn,.slice q5 h5 f5] 39))) (fun _ q=>q.elim)
 obtain⟨W3,hW3⟩:∃ W3,w3.alloc (.cells #[.int .i64 ck,.string z1,.slice q1 h1 f1,.string z2,.slice q2 h2 f2,.slice q3 h3 f3,.slice q4 h4 f4,.string z3,.int .i64 ci,.int .i64 cn,.slice q5 h5 f5] 39)=W3:=⟨_,rfl⟩
 obtain⟨b9,hb9⟩:∃ b9,w3.heap.size=b9:=⟨_,rfl⟩
 have h39:b3<b9:=by
  rw[<-hb9]
  exact Nat.lt_of_lt_of_le (Nat.lt_trans h36 HQ6.out.lt) hb3.size
 rw[hW3] at hq9 hbb hom
 rw[hb9] at hq9
 have hb13:Below w1.heap.size w1 W3:=HB11.out.trans ((HB2.out.trans (hbb.mono HB2.out.size)).mono HB11.out.size)
 obtain⟨T,U,hmw,hc1,hc2,hc3,hc4,hc5⟩:=MW.start HO1.out HSL.out hb13
 rw[HW1.out.2] at hmw
 have HM:=Lib.hid hmw
 have HW3:=Lib.hid (And.intro hW3 hb9)
 have HQ3:=Lib.hid (HQ1.out.below (HB2.out.trans (hbb.mono HB2.out.size)) HQ1.out.lt)
 have HQ6b:=Lib.hid (HQ6.out.below hbb HQ6.out.lt)
 have HQ9:=Lib.hid hq9
 have HD:=Lib.hid (HO6.out.modB (F:=fun _=>False) (Mod.ofBelow hbb) (fun _ q=>q.elim))
 have HE:=Lib.hid hom
 have HBW:=Lib.hid (HB1.out.trans ((HB2.out.trans (hbb.mono HB2.out.size)).mono HB1.out.size))
 have HSZ:=Lib.hid (And.intro (HB2.out.size) (HW1.out.2 ▸ HB11.out.size:b3<=W1.heap.size))
 clear hb3 hq9 hbb hom hW3 hb9 hown hb13 hmw HB1 HB2 HB11 HO1 HO6 HQ1 HQ6 HW1 HW2 HRP
 go_upto_region 4 with fail
 rw[HW3.out.1,HW3.out.2]
 clear HW3
 have k2:=HQ3.out.cell 2
 have kl:=HQ3.out.lt
 simp only[List.getElem?_toArray,List.getElem?_cons_zero,List.getElem?_cons_succ] at k2
 go_wp2_with fail
 go_loopw [44] (fun i wr=>∃ k:Nat,k<=n1/\i=.int .i64 k/\Hid (MW w1 W3 w.heap.size b3 wr o1 o2 o3 o4 o5 n1 n2 n3 n4 n5 T U)) (fun i _=>n1 - (intOf i).toNat)
 case atStart=>exact⟨0,Nat.zero_le _,rfl,HM⟩
 case round =>
  obtain⟨k,hk,rfl,HX⟩:=hrel
  obtain⟨wo,rfl⟩:∃ wo:World,wo=wr:=⟨_,rfl⟩
  clear k2 kl
  by_cases hlt:k<n1
  ·obtain⟨g,rfl,hF,hgl,hat⟩:=HX.out.cols.at_ (by omega)
   obtain⟨⟨u,hu⟩,hf⟩:=hat (k * 2) (by omega)
   have hpx:=HQ3.out.modQ HX.out.mod (by omega)
   have d2:=hpx.cell 2
   have dl:=hpx.lt
   simp only[List.getElem?_toArray,List.getElem?_cons_zero,List.getElem?_cons_succ] at d2
   have hd1:decide ((k:Int)<0)=false:=by simp
   have hd2:decide ((n1:Int)<=(k:Int))=false:=by simp;omega
   have HF:=Lib.hid hF
   clear hat hF hpx
   go_wp2_with fail
   go_roundw
   case rel=>exact⟨k+1,by omega,by go_num,Lib.hid (HX.out.put HF.out (.inl rfl) (k * 2) [_])⟩
   case measure=>simp [intOf];omega
  ·obtain rfl:k=n1:=by omega
   have hpx:=HQ3.out.modQ HX.out.mod (by omega)
   have d5:=hpx.cell 5
   have dl:=hpx.lt
   simp only[List.getElem?_toArray,List.getElem?_cons_zero,List.getElem?_cons_succ] at d5
   clear hpx
   go_wp2_with fail
   clear d5 dl
   go_loopw [58] (fun i wr=>∃ x:Nat,x<=n3/\i=.int .i64 x/\Hid (MW w1 W3 w.heap.size b3 wr o1 o2 o3 o4 o5 k n2 n3 n4 n5 T U)) (fun i _=>n3 - (intOf i).toNat)
   case atStart=>exact⟨0,Nat.zero_le _,rfl,HX⟩
   case round =>
    obtain⟨x,hx,rfl,HA⟩:=hrel
    obtain⟨wx,rfl⟩:∃ wx:World,wx=wr:=⟨_,rfl⟩
    by_cases hxl:x<n3
    ·obtain⟨g,t,kk,cc,u,rfl,hF,hgl,hT,hu,hf,hcl,hkk,hW⟩:=HA.out.atoms.at_ hxl
     have hpx:=HQ3.out.modQ HA.out.mod (by omega)
     have d5:=hpx.cell 5
     have dl:=hpx.lt
     simp only[List.getElem?_toArray,List.getElem?_cons_zero,List.getElem?_cons_succ] at d5
     clear hpx
     have hd1:decide ((x:Int)<0)=false:=by simp
     have hd2:decide ((n3:Int)<=(x:Int))=false:=by simp;omega
     have HT:=Lib.hid hT
     clear hF hT hW
     go_wp2_with fail
     clear d5 dl
     go_loopw [69] (fun i wr=>∃ y:Nat,y<=kk/\i=.int .i64 y/\Hid (MW w1 W3 w.heap.size b3 wr o1 o2 (some ⟨g,0,none⟩) o4 o5 k n2 n3 n4 n5 T U)) (fun i _=>kk - (intOf i).toNat)
     case atStart=>exact⟨0,Nat.zero_le _,rfl,HA⟩
     case round =>
      obtain⟨y,hy,rfl,HY⟩:=hrel
      obtain⟨wy,rfl⟩:∃ wy:World,wy=wr:=⟨_,rfl⟩
      clear hu hf hcl hgl
      obtain⟨g',t',k',c',u',hgg,hF',hgl',hT',hu',hf',hcl',_,hW'⟩:=HY.out.atoms.at_ hxl
      injection hgg with hgg
      injection hgg with hgg _ _
      subst hgg
      rw[HT.out] at hT'
      simp only[Option.some.injEq,Prod.mk.injEq] at hT'
      obtain⟨rfl,rfl,rfl⟩:=hT'
      by_cases hyl:y<kk
      ·obtain⟨q,rfl,⟨hq1,hq2⟩,hql,hqa⟩:=hW'.at_ (by omega)
       have hpx:=HQ3.out.modQ HY.out.mod (by omega)
       have d5:=hpx.cell 5
       have dl:=hpx.lt
       simp only[List.getElem?_toArray,List.getElem?_cons_zero,List.getElem?_cons_succ] at d5
       clear hpx
       have hth:wy.there q (y * 4) 4:=fun z hz=>by
        obtain⟨⟨u2,hu2⟩,hf2⟩:=hqa (y * 4+z) (by omega)
        exact⟨by rw[hu2];rfl,hf2⟩
       have HTH:=Lib.hid hth
       have HQF:=Lib.hid hq1
       have HQN:=Lib.hid hq2
       have he1:decide ((y:Int)<0)=false:=by simp
       have he2:decide ((kk:Int)<=(y:Int))=false:=by simp;omega
       clear hth hqa hq1 hq2
       go_wp2_with (refine wpList_store_mid rfl 71 _ _ rfl _ _ _ rfl rfl ?ht (by kernel_rfl) (by simp [Value.oneCell']) ?_)
       case ht=>exact HTH.out
       go_wp2_with fail
       go_roundw
       case rel=>exact⟨y+1,by omega,by go_num,Lib.hid (HY.out.putTerm HQF.out (fun e=>HQN.out (by injection e with e;injection e with e _ _;exact e.symm)) _ _)⟩
       case measure=>simp [intOf];omega
      ·obtain rfl:y=kk:=by omega
       clear hW'
       go_wp2_with fail
       go_roundw
       case rel=>exact⟨x+1,by omega,by go_num,HY⟩
       case measure=>simp [intOf];omega
    ·obtain rfl:x=n3:=by omega
     have hpx:=HQ3.out.modQ HA.out.mod (by omega)
     have d4:=hpx.cell 4
     have dl:=hpx.lt
     simp only[List.getElem?_toArray,List.getElem?_cons_zero,List.getElem?_cons_succ] at d4
     clear hpx
     go_wp2_with fail
     clear d4 dl
     go_loopw [88] (fun i wr=>∃ j:Nat,j<=n2/\i=.int .i64 j/\Hid (MW w1 W3 w.heap.size b3 wr o1 o2 o3 o4 o5 k n2 x n4 n5 T U)) (fun i _=>n2 - (intOf i).toNat)
     case atStart=>exact⟨0,Nat.zero_le _,rfl,HA⟩
     case round =>
      obtain⟨j,hj,rfl,HH⟩:=hrel
      obtain⟨wj,rfl⟩:∃ wj:World,wj=wr:=⟨_,rfl⟩
      by_cases hjl:j<n2
      ·obtain⟨g,rfl,hF,hgl,hat⟩:=HH.out.head.at_ (by omega)
       obtain⟨⟨u,hu⟩,hf⟩:=hat j (by omega)
       have hpx:=HQ3.out.modQ HH.out.mod (by omega)
       have d4:=hpx.cell 4
       have dl:=hpx.lt
       simp only[List.getElem?_toArray,List.getElem?_cons_zero,List.getElem?_cons_succ] at d4
       clear hpx
       have hd1:decide ((j:Int)<0)=false:=by simp
       have hd2:decide ((n2:Int)<=(j:Int))=false:=by simp;omega
       have HF:=Lib.hid hF
       clear hat hF
       go_wp2_with fail
       go_roundw
       case rel=>exact⟨j+1,by omega,by go_num,Lib.hid (HH.out.put HF.out (.inr rfl) j [_])⟩
       case measure=>simp [intOf];omega
      ·obtain rfl:j=n2:=by omega
       have hpx:=HQ3.out.modQ HH.out.mod (by omega)
       have d6:=hpx.cell 6
       have dl:=hpx.lt
       simp only[List.getElem?_toArray,List.getElem?_cons_zero,List.getElem?_cons_succ] at d6
       clear hpx
       go_wp2_with fail
       clear d6 dl
       go_loopw [100] (fun i wr=>∃ p:Nat,p<=n4/\i=.int .i64 p/\Hid (MW w1 W3 w.heap.size b3 wr o1 o2 o3 o4 o5 k j x n4 n5 T U)) (fun i _=>n4 - (intOf i).toNat)
       case atStart=>exact⟨0,Nat.zero_le _,rfl,HH⟩
       case round =>
        obtain⟨p,hp,rfl,HC⟩:=hrel
        obtain⟨wp,rfl⟩:∃ wp:World,wp=wr:=⟨_,rfl⟩
        by_cases hpl:p<n4
        ·obtain⟨g,t,kk,cc,u,rfl,hF,hgl,hT,hu,hf,hcl,hkk,hW⟩:=HC.out.chgs.at_ hpl
         have hpx:=HQ3.out.modQ HC.out.mod (by omega)
         have d6:=hpx.cell 6
         have dl:=hpx.lt
         simp only[List.getElem?_toArray,List.getElem?_cons_zero,List.getElem?_cons_succ] at d6
         clear hpx
         have hd1:decide ((p:Int)<0)=false:=by simp
         have hd2:decide ((n4:Int)<=(p:Int))=false:=by simp;omega
         have HT:=Lib.hid hT
         clear hF hT hW
         go_wp2_with fail
         clear d6 dl
         go_loopw [110] (fun i wr=>∃ y:Nat,y<=kk/\i=.int .i64 y/\Hid (MW w1 W3 w.heap.size b3 wr o1 o2 o3 (some ⟨g,0,none⟩) o5 k j x n4 n5 T U)) (fun i _=>kk - (intOf i).toNat)
         case atStart=>exact⟨0,Nat.zero_le _,rfl,HC⟩
         case round =>
          obtain⟨y,hy,rfl,HY⟩:=hrel
          obtain⟨wy,rfl⟩:∃ wy:World,wy=wr:=⟨_,rfl⟩
          clear hu hf hcl hgl
          obtain⟨g',t',k',c',u',hgg,hF',hgl',hT',hu',hf',hcl',_,hW'⟩:=HY.out.chgs.at_ hpl
          injection hgg with hgg
          injection hgg with hgg _ _
          subst hgg
          rw[HT.out] at hT'
          simp only[Option.some.injEq,Prod.mk.injEq] at hT'
          obtain⟨rfl,rfl,rfl⟩:=hT'
          by_cases hyl:y<kk
          ·obtain⟨q,rfl,⟨hq1,hq2⟩,hql,hqa⟩:=hW'.at_ (by omega)
           have hpx:=HQ3.out.modQ HY.out.mod (by omega)
           have d6:=hpx.cell 6
           have dl:=hpx.lt
           simp only[List.getElem?_toArray,List.getElem?_cons_zero,List.getElem?_cons_succ] at d6
           clear hpx
           have hth:wy.there q (y * 3) 3:=fun z hz=>by
            obtain⟨⟨u2,hu2⟩,hf2⟩:=hqa (y * 3+z) (by omega)
            exact⟨by rw[hu2];rfl,hf2⟩
           have HTH:=Lib.hid hth
           have HQF:=Lib.hid hq1
           have HQN:=Lib.hid hq2
           have he1:decide ((y:Int)<0)=false:=by simp
           have he2:decide ((kk:Int)<=(y:Int))=false:=by simp;omega
           clear hth hqa hq1 hq2
           go_wp2_with (refine wpList_store_mid rfl 69 _ _ rfl _ _ _ rfl rfl ?ht (by kernel_rfl) (by simp [Value.oneCell']) ?_)
           case ht=>exact HTH.out
           go_wp2_with fail
           go_roundw
           case rel=>exact⟨y+1,by omega,by go_num,Lib.hid (HY.out.putRow HQF.out (fun e=>HQN.out (by injection e with e;injection e with e _ _;exact e.symm)) _ _)⟩
           case measure=>simp [intOf];omega
          ·obtain rfl:y=kk:=by omega
           clear hW'
           go_wp2_with fail
           go_roundw
           case rel=>exact⟨p+1,by omega,by go_num,HY⟩
           case measure=>simp [intOf];omega
        ·obtain rfl:p=n4:=by omega
         have hpx:=HQ3.out.modQ HC.out.mod (by omega)
         have d10:=hpx.cell 10
         have dl:=hpx.lt
         simp only[List.getElem?_toArray,List.getElem?_cons_zero,List.getElem?_cons_succ] at d10
         clear hpx
         go_wp2_with fail
         clear d10 dl
         have HM0:=Lib.hid HC.out.mod
         have HR0:=Lib.hid HC.out.row
         go_loopw [127] (fun i wr=>∃ v:Nat,v<=n5/\i=.int .i64 v/\Hid (Mod (fun g=>w.heap.size<=g/\g<b3) W3 wr)/\Hid (Wrt (TyB w1 w.heap.size b3 69) wr 3 o5 n5)) (fun i _=>n5 - (intOf i).toNat)
         case atStart=>exact⟨0,Nat.zero_le _,rfl,HM0,HR0⟩
         case round =>
          obtain⟨v,hv,rfl,HMV,HV⟩:=hrel
          obtain⟨wv,rfl⟩:∃ wv:World,wv=wr:=⟨_,rfl⟩
          by_cases hvl:v<n5
          ·obtain⟨g,rfl,hF,hgl,hat⟩:=HV.out.at_ (by omega)
           have hpx:=HQ3.out.modQ HMV.out (by omega)
           have d10:=hpx.cell 10
           have dl:=hpx.lt
           simp only[List.getElem?_toArray,List.getElem?_cons_zero,List.getElem?_cons_succ] at d10
           clear hpx
           have hth:wv.there g (v * 3) 3:=fun z hz=>by
            obtain⟨⟨u2,hu2⟩,hf2⟩:=hat (v * 3+z) (by omega)
            exact⟨by rw[hu2];rfl,hf2⟩
           have HTH:=Lib.hid hth
           have HF:=Lib.hid hF
           have hd1:decide ((v:Int)<0)=false:=by simp
           have hd2:decide ((n5:Int)<=(v:Int))=false:=by simp;omega
           clear hat hF hth
           go_wp2_with (refine wpList_store_mid rfl 69 _ _ rfl _ _ _ rfl rfl ?ht (by kernel_rfl) (by simp [Value.oneCell']) ?_)
           case ht=>exact HTH.out
           go_wp2_with fail
           go_roundw
           case rel=>exact⟨v+1,by omega,by go_num,Lib.hid (HMV.out.trans (mod_setCellsQ (F:=fun q=>w.heap.size<=q/\q<b3) ⟨HF.out.1,HF.out.2.1⟩ _ _ _) (fun _ _ q=>q)),Lib.hid (HV.out.set _ _ _)⟩
           case measure=>simp [intOf];omega
          ·obtain rfl:v=n5:=by omega
           have hq6:=HQ6b.out.modQ HMV.out (by omega)
           have hq9:=HQ9.out.modQ HMV.out (by omega)
           have hd:=HD.out.modB HMV.out (fun k hk=>by have:=HSZ.out;omega)
           have he:=HE.out.modB HMV.out (fun k hk=>by have:=HSZ.out;omega)
           have hbv:=HBW.out.trans (HMV.out.below HBW.out.size (fun i hi=>hi.1))
           have HQ6:=Lib.hid hq6
           have HQ9v:=Lib.hid hq9
           have HDv:=Lib.hid (hd.at HSL.out)
           have HEv:=Lib.hid (he.at HSL.out)
           have HBV:=Lib.hid hbv
           clear hq6 hq9 hd he hbv HMV HV HM0 HR0 HBW HD HE HQ6b HQ9 HQ3 HM
           go_wp2_with fail
           refine (HP.out _ HBV.out).mono ?_
           rintro e w5 ⟨cells5,rfl,hown,hb5⟩
           have hat:=hown.at HSL.out
           obtain⟨u1,u2,u3,s1,s2,s3,s4,s5,v1,g1,v2,g2,v3,g3,v4,g4,v5,g5,rfl⟩:=hat.form
           rw[HK.out.1,HK.out.2.1,HK.out.2.2] at hat ⊢
           have hq6:=(HQ6.out.below hb5 HQ6.out.lt).alloc (.cells #[.int .i64 ck,.string u1,.slice s1 v1 g1,.string u2,.slice s2 v2 g2,.slice s3 v3 g3,.slice s4 v4 g4,.string u3,.int .i64 ci,.int .i64 cn,.slice s5 v5 g5] 34)
           have hq9:=(HQ9v.out.below hb5 HQ9v.out.lt).alloc (.cells #[.int .i64 ck,.string u1,.slice s1 v1 g1,.string u2,.slice s2 v2 g2,.slice s3 v3 g3,.slice s4 v4 g4,.string u3,.int .i64 ci,.int .i64 cn,.slice s5 v5 g5] 34)
           have hq19:=Blk.new w5 34 #[.int .i64 ck,.string u1,.slice s1 v1 g1,.string u2,.slice s2 v2 g2,.slice s3 v3 g3,.slice s4 v4 g4,.string u3,.int .i64 ci,.int .i64 cn,.slice s5 v5 g5]
           have hbw:=balloc (HBV.out.trans (hb5.mono HBV.out.size)) (.cells #[.int .i64 ck,.string u1,.slice s1 v1 g1,.string u2,.slice s2 v2 g2,.slice s3 v3 g3,.slice s4 v4 g4,.string u3,.int .i64 ci,.int .i64 cn,.slice s5 v5 g5] 34)
           have hx:=hat.keep (balloc (Below.refl w5.heap.size w5) (.cells #[.int .i64 ck,.string u1,.slice s1 v1 g1,.string u2,.slice s2 v2 g2,.slice s3 v3 g3,.slice s4 v4 g4,.string u3,.int .i64 ci,.int .i64 cn,.slice s5 v5 g5] 34))
           have hd:=HDv.out.keep (balloc hb5 (.cells #[.int .i64 ck,.string u1,.slice s1 v1 g1,.string u2,.slice s2 v2 g2,.slice s3 v3 g3,.slice s4 v4 g4,.string u3,.int .i64 ci,.int .i64 cn,.slice s5 v5 g5] 34))
           have he:=HEv.out.keep (balloc hb5 (.cells #[.int .i64 ck,.string u1,.slice s1 v1 g1,.string u2,.slice s2 v2 g2,.slice s3 v3 g3,.slice s4 v4 g4,.string u3,.int .i64 ci,.int .i64 cn,.slice s5 v5 g5] 34))
           obtain⟨W5,hW5⟩:∃ W5,w5.alloc (.cells #[.int .i64 ck,.string u1,.slice s1 v1 g1,.string u2,.slice s2 v2 g2,.slice s3 v3 g3,.slice s4 v4 g4,.string u3,.int .i64 ci,.int .i64 cn,.slice s5 v5 g5] 34)=W5:=⟨_,rfl⟩
           obtain⟨b19,hb19⟩:∃ b19,w5.heap.size=b19:=⟨_,rfl⟩
           rw[hW5] at hq6 hq9 hq19 hbw hx hd he
           rw[hb19] at hq19
           have HW5:=Lib.hid (And.intro hW5 hb19)
           obtain⟨SS,hSS⟩:∃ SS:World->Prop,SS=fun w'=>Blk w' b6 34 #[.int .i64 ck,.string y1,.slice p1 m1 e1,.string y2,.slice p2 m2 e2,.slice p3 m3 e3,.slice p4 m4 e4,.string y3,.int .i64 ci,.int .i64 cn,.slice p5 m5 e5]/\Blk w' b9 39 #[.int .i64 ck,.string z1,.slice q1 h1 f1,.string z2,.slice q2 h2 f2,.slice q3 h3 f3,.slice q4 h4 f4,.string z3,.int .i64 ci,.int .i64 cn,.slice q5 h5 f5]/\Blk w' b19 34 #[.int .i64 ck,.string u1,.slice s1 v1 g1,.string u2,.slice s2 v2 g2,.slice s3 v3 g3,.slice s4 v4 g4,.string u3,.int .i64 ci,.int .i64 cn,.slice s5 v5 g5]/\Below W5.heap.size W5 w':=⟨_,rfl⟩
           have hsd:SS W5.drew:=by rw[hSS];exact⟨hq6.drew,hq9.drew,hq19.drew,bdrew (Below.refl _ _)⟩
           have hsk:∀ W W',SS W->Below W.heap.size W W'->SS W':=fun W W' q hb=>by
            rw[hSS] at q ⊢
            exact⟨q.1.below hb q.1.lt,q.2.1.below hb q.2.1.lt,q.2.2.1.below hb q.2.2.1.lt,q.2.2.2.trans (hb.mono q.2.2.2.size)⟩
           have HSD:=Lib.hid hsd
           have HSK:=Lib.hid hsk
           have HS6:=Lib.hid (fun W (q:SS W)=>(by rw[hSS] at q;exact q.1:Blk W b6 34 #[.int .i64 ck,.string y1,.slice p1 m1 e1,.string y2,.slice p2 m2 e2,.slice p3 m3 e3,.slice p4 m4 e4,.string y3,.int .i64 ci,.int .i64 cn,.slice p5 m5 e5]))
           have HS9:=Lib.hid (fun W (q:SS W)=>(by rw[hSS] at q;exact q.2.1:Blk W b9 39 #[.int .i64 ck,.string z1,.slice q1 h1 f1,.string z2,.slice q2 h2 f2,.slice q3 h3 f3,.slice q4 h4 f4,.string z3,.int .i64 ci,.int .i64 cn,.slice q5 h5 f5]))
           have HS19:=Lib.hid (fun W (q:SS W)=>(by rw[hSS] at q;exact q.2.2.1:Blk W b19 34 #[.int .i64 ck,.string u1,.slice s1 v1 g1,.string u2,.slice s2 v2 g2,.slice s3 v3 g3,.slice s4 v4 g4,.string u3,.int .i64 ci,.int .i64 cn,.slice s5 v5 g5]))
           have HSB:=Lib.hid (fun W (q:SS W)=>(by rw[hSS] at q;exact hbw.trans (q.2.2.2.mono hbw.size):Below w.heap.size w W))
           have HAD:=Lib.hid (fun W (q:SS W)=>(by rw[hSS] at q;exact hd.keep q.2.2.2:CmdAt W #[.int .i64 ck,.string y1,.slice p1 m1 e1,.string y2,.slice p2 m2 e2,.slice p3 m3 e3,.slice p4 m4 e4,.string y3,.int .i64 ci,.int .i64 cn,.slice p5 m5 e5] c))
           have HAE:=Lib.hid (fun W (q:SS W)=>(by rw[hSS] at q;exact he.keep q.2.2.2:CmdAt W #[.int .i64 ck,.string z1,.slice q1 h1 f1,.string z2,.slice q2 h2 f2,.slice q3 h3 f3,.slice q4 h4 f4,.string z3,.int .i64 ci,.int .i64 cn,.slice q5 h5 f5] c))
           have HAX:=Lib.hid (fun W (q:SS W)=>(by rw[hSS] at q;exact hx.keep q.2.2.2:CmdAt W #[.int .i64 ck,.string u1,.slice s1 v1 g1,.string u2,.slice s2 v2 g2,.slice s3 v3 g3,.slice s4 v4 g4,.string u3,.int .i64 ci,.int .i64 cn,.slice s5 v5 g5] c))
           clear hSS hsd hsk hq6 hq9 hq19 hbw hx hd he hat hb5 hW5 hb19 hown HP HBV HQ6 HQ9v HDv HEv
           go_upto_region 38 with fail
           rw[HW5.out.1,HW5.out.2]
           clear HW5
           have HSS:SS W5.drew:=HSD.out
           refine wp_region_held_drew (by kernel_rfl) HSS (fun _=>?_)
           refine Held.take 0 142 (v:=?_) rfl rfl (by kernel_rfl) (by kernel_rfl) (by kernel_rfl) (fun _ _ _ _ h=>h) (by kernel_rfl) HSS ?_ ?_
           rotate_left
           ·intro u hu
            have hq:=HS6.out u hu
            have k0:=hq.cell 0
            have k1:=hq.cell 1
            have k2:=hq.cell 2
            have k3:=hq.cell 3
            have k4:=hq.cell 4
            have k5:=hq.cell 5
            have k6:=hq.cell 6
            have k7:=hq.cell 7
            have k8:=hq.cell 8
            have k9:=hq.cell 9
            have k10:=hq.cell 10
            simp only[List.getElem?_toArray,List.getElem?_cons_zero,List.getElem?_cons_succ] at k0 k1 k2 k3 k4 k5 k6 k7 k8 k9 k10
            have kl:=hq.lt
            clear hq hu
            go_simp
            try with_reducible rfl
           try simp only[List.setIfInBounds_toArray,List.set_cons_succ,List.set_cons_zero]
           refine Held.take 2 144 (v:=?_) rfl rfl (by kernel_rfl) (by kernel_rfl) (by kernel_rfl) (fun _ _ _ _ h=>h) (by kernel_rfl) HSS ?_ ?_
           rotate_left
           ·intro u hu
            have hq:=HS9.out u hu
            have k0:=hq.cell 0
            have k1:=hq.cell 1
            have k2:=hq.cell 2
            have k3:=hq.cell 3
            have k4:=hq.cell 4
            have k5:=hq.cell 5
            have k6:=hq.cell 6
            have k7:=hq.cell 7
            have k8:=hq.cell 8
            have k9:=hq.cell 9
            have k10:=hq.cell 10
            simp only[List.getElem?_toArray,List.getElem?_cons_zero,List.getElem?_cons_succ] at k0 k1 k2 k3 k4 k5 k6 k7 k8 k9 k10
            have kl:=hq.lt
            clear hq hu
            go_simp
            try with_reducible rfl
           try simp only[List.setIfInBounds_toArray,List.set_cons_succ,List.set_cons_zero]
           refine Held.one 1 rfl (by kernel_rfl) (fun K hK=>?_)
           go_simp
           refine (of_any _ ck ci cn y1 y2 y3 p1 p2 p3 p4 p5 m1 e1 m2 e2 m3 e3 m4 e4 m5 e5).mono ?_
           rintro e w6 ⟨rfl,hbw6⟩
           have HSSw6:=HSK.out _ _ HSS hbw6
           refine hK.out _ _ HSSw6 ?_
           clear hK K HSS hbw6
           rename SS w6=>HSS
           try simp only[List.setIfInBounds_toArray,List.set_cons_succ,List.set_cons_zero]
           refine Held.one 3 rfl (by kernel_rfl) (fun K hK=>?_)
           go_simp
           refine (sameCmd_any _ _ _ c (HAD.out _ HSS) (HAE.out _ HSS)).mono ?_
           rintro e w7 ⟨rfl,hbw7⟩
           have HSSw7:=HSK.out _ _ HSS hbw7
           refine hK.out _ _ HSSw7 ?_
           clear hK K HSS hbw7
           rename SS w7=>HSS
           try simp only[List.setIfInBounds_toArray,List.set_cons_succ,List.set_cons_zero]
           refine Held.one 4 rfl (by kernel_rfl) (fun K hK=>?_)
           go_simp
           refine hK.out _ _ HSS ?_
           clear hK K
           try simp only[List.setIfInBounds_toArray,List.set_cons_succ,List.set_cons_zero]
           refine Held.take 5 147 (v:=?_) rfl rfl (by kernel_rfl) (by kernel_rfl) (by kernel_rfl) (fun _ _ _ _ h=>h) (by kernel_rfl) HSS ?_ ?_
           rotate_left
           ·intro u hu
            have hq:=HS19.out u hu
            have k0:=hq.cell 0
            have k1:=hq.cell 1
            have k2:=hq.cell 2
            have k3:=hq.cell 3
            have k4:=hq.cell 4
            have k5:=hq.cell 5
            have k6:=hq.cell 6
            have k7:=hq.cell 7
            have k8:=hq.cell 8
            have k9:=hq.cell 9
            have k10:=hq.cell 10
            simp only[List.getElem?_toArray,List.getElem?_cons_zero,List.getElem?_cons_succ] at k0 k1 k2 k3 k4 k5 k6 k7 k8 k9 k10
            have kl:=hq.lt
            clear hq hu
            go_simp
            try with_reducible rfl
           try simp only[List.setIfInBounds_toArray,List.set_cons_succ,List.set_cons_zero]
           refine Held.take 7 149 (v:=?_) rfl rfl (by kernel_rfl) (by kernel_rfl) (by kernel_rfl) (fun _ _ _ _ h=>h) (by kernel_rfl) HSS ?_ ?_
           rotate_left
           ·intro u hu
            have hq:=HS9.out u hu
            have k0:=hq.cell 0
            have k1:=hq.cell 1
            have k2:=hq.cell 2
            have k3:=hq.cell 3
            have k4:=hq.cell 4
            have k5:=hq.cell 5
            have k6:=hq.cell 6
            have k7:=hq.cell 7
            have k8:=hq.cell 8
            have k9:=hq.cell 9
            have k10:=hq.cell 10
            simp only[List.getElem?_toArray,List.getElem?_cons_zero,List.getElem?_cons_succ] at k0 k1 k2 k3 k4 k5 k6 k7 k8 k9 k10
            have kl:=hq.lt
            clear hq hu
            go_simp
            try with_reducible rfl
           try simp only[List.setIfInBounds_toArray,List.set_cons_succ,List.set_cons_zero]
           refine Held.one 6 rfl (by kernel_rfl) (fun K hK=>?_)
           go_simp
           refine (of_any _ ck ci cn u1 u2 u3 s1 s2 s3 s4 s5 v1 g1 v2 g2 v3 g3 v4 g4 v5 g5).mono ?_
           rintro e w8 ⟨rfl,hbw8⟩
           have HSSw8:=HSK.out _ _ HSS hbw8
           refine hK.out _ _ HSSw8 ?_
           clear hK K HSS hbw8
           rename SS w8=>HSS
           try simp only[List.setIfInBounds_toArray,List.set_cons_succ,List.set_cons_zero]
           refine Held.one 8 rfl (by kernel_rfl) (fun K hK=>?_)
           go_simp
           refine (sameCmd_any _ _ _ c (HAX.out _ HSS) (HAE.out _ HSS)).mono ?_
           rintro e w9 ⟨rfl,hbw9⟩
           have HSSw9:=HSK.out _ _ HSS hbw9
           refine hK.out _ _ HSSw9 ?_
           clear hK K HSS hbw9
           rename SS w9=>HSS
           try simp only[List.setIfInBounds_toArray,List.set_cons_succ,List.set_cons_zero]
           refine Held.one 9 rfl (by kernel_rfl) (fun K hK=>?_)
           go_simp
           refine hK.out _ _ HSS ?_
           clear hK K
           try simp only[List.setIfInBounds_toArray,List.set_cons_succ,List.set_cons_zero]
           refine Held.one 10 rfl (by kernel_rfl) (fun K hK=>?_)
           go_simp
           refine hK.out _ _ HSS ?_
           clear hK K
           try simp only[List.setIfInBounds_toArray,List.set_cons_succ,List.set_cons_zero]
           refine Held.take 11 153 (v:=?_) rfl rfl (by kernel_rfl) (by kernel_rfl) (by kernel_rfl) (fun _ _ _ _ h=>h) (by kernel_rfl) HSS ?_ ?_
           rotate_left
           ·intro u hu
            go_simp
            try with_reducible rfl
           try simp only[List.setIfInBounds_toArray,List.set_cons_succ,List.set_cons_zero]
           refine Held.take 12 154 (v:=?_) rfl rfl (by kernel_rfl) (by kernel_rfl) (by kernel_rfl) (fun _ _ _ _ h=>h) (by kernel_rfl) HSS ?_ ?_
           rotate_left
           ·intro u hu
            have hq:=HS19.out u hu
            have k10:=hq.cell 10
            simp only[List.getElem?_toArray,List.getElem?_cons_zero,List.getElem?_cons_succ] at k10
            have kl:=hq.lt
            clear hq hu
            go_simp
            try with_reducible rfl
           try simp only[List.setIfInBounds_toArray,List.set_cons_succ,List.set_cons_zero]
           refine Held.take 13 155 (v:=?_) rfl rfl (by kernel_rfl) (by kernel_rfl) (by kernel_rfl) (fun _ _ _ _ h=>h) (by kernel_rfl) HSS ?_ ?_
           rotate_left
           ·intro u hu
            go_simp
            try with_reducible rfl
           try simp only[List.setIfInBounds_toArray,List.set_cons_succ,List.set_cons_zero]
           refine Held.one 14 rfl (by kernel_rfl) (fun K hK=>?_)
           have hq:=HS9.out _ HSS
           have k10:=hq.cell 10
           simp only[List.getElem?_toArray,List.getElem?_cons_zero,List.getElem?_cons_succ] at k10
           have kl:=hq.lt
           clear hq
           go_simp
           refine hK.out _ _ HSS ?_
           clear hK K kl k10
           try simp only[List.setIfInBounds_toArray,List.set_cons_succ,List.set_cons_zero]
           refine Held.one 15 rfl (by kernel_rfl) (fun K hK=>?_)
           go_simp
           refine (same_self _ _ _ c.row (HAX.out _ HSS).row (HAE.out _ HSS).row).mono ?_
           rintro e w10 ⟨rfl,hbw10⟩
           have HSSw10:=HSK.out _ _ HSS hbw10
           refine hK.out _ _ HSSw10 ?_
           clear hK K HSS hbw10
           rename SS w10=>HSS
           try simp only[List.setIfInBounds_toArray,List.set_cons_succ,List.set_cons_zero]
           refine Held.one 16 rfl (by kernel_rfl) (fun K hK=>?_)
           go_simp
           refine hK.out _ _ HSS ?_
           clear hK K
           try simp only[List.setIfInBounds_toArray,List.set_cons_succ,List.set_cons_zero]
           refine Held.one 17 rfl (by kernel_rfl) (fun K hK=>?_)
           go_simp
           refine hK.out _ _ HSS ?_
           clear hK K
           try simp only[List.setIfInBounds_toArray,List.set_cons_succ,List.set_cons_zero]
           refine Held.one 18 rfl (by kernel_rfl) (fun K hK=>?_)
           go_simp
           refine (HAW.out _ (HSB.out _ HSS)).mono ?_
           rintro e w11 ⟨rfl,hbw11⟩
           have HSSw11:=HSK.out _ _ HSS hbw11
           refine hK.out _ _ HSSw11 ?_
           clear hK K HSS hbw11
           rename SS w11=>HSS
           try simp only[List.setIfInBounds_toArray,List.set_cons_succ,List.set_cons_zero]
           refine Held.one 19 rfl (by kernel_rfl) (fun K hK=>?_)
           go_simp
           refine hK.out _ _ HSS ?_
           clear hK K
           try simp only[List.setIfInBounds_toArray,List.set_cons_succ,List.set_cons_zero]
           refine Held.one 20 rfl (by kernel_rfl) (fun K hK=>?_)
           go_simp
           refine hK.out _ _ HSS ?_
           clear hK K
           try simp only[List.setIfInBounds_toArray,List.set_cons_succ,List.set_cons_zero]
           refine wpAnyH_done (by kernel_rfl) ?_ _
           have HBE:=Lib.hid (HSB.out _ HSS)
           go_wp2_with fail
           go_ret
           exact⟨by first | rfl | simp,HBE.out⟩
end Go.Proofs.YtamjadghncnbcaaGreatDoor
