/- store.Store.Begin, Commit, Put of an empty row into an empty store, walked (printed by mkst9.py). Lookups in a map with one entry; store.Store.rowAt; chain.Lists.list; walked (printed by mksta.py). chain.Lists.Walk over a list with one cell, a contract for whatever loop body. -/
import Derived.Test.YtgopfpjinohncaaGreatDoorSt7ZV
import Derived.Test.YtgopfpjinohncaaGreatDoorApZV
import Derived.Laws.OwnMore
import Derived.RangeFuncNested
import Derived.RangeFuncBound
import Derived.RangeFuncCalls
import Derived.RangeFuncLeaves
import Derived.OwnWalkIn
import Derived.TacticsInMore
import Derived.LoopNIn
import Derived.LoopIn
namespace Go.Proofs.YtgopfpjinohncaaGreatDoor
open Go.RowKit
set_option linter.unusedVariables false
structure Emp (w:World) (st a1 m1 h1 tb a2 m2 c1:Nat) (mk:Bool) (p:Int):Prop where
 s:Blk w st 326 #[.int .i64 0,.int .i64 512,.int .i64 1,.slice none 0 0,.pointer (some ⟨a1,0,none⟩),.map (some m1),.pointer (some ⟨h1,0,none⟩),.slice none 0 0,.pointer (some ⟨a2,0,none⟩),.map (some m2),.pointer (some ⟨c1,0,none⟩),.bool mk,.slice none 0 0]
 a:Blk w a1 394 #[.int .i64 512,.int .i64 1073741824,.slice none 0 0,.slice none 0 0,.int .i64 0]
 m:MapB w m1 #[] 0
 h:Blk w h1 397 #[.int .i64 512,.int .i64 0,.int .i64 0,.int .i64 p,.slice (some ⟨tb,0,none⟩) 8 8]
 t:Blk w tb 428 zeroP.toArray
 c:Blk w c1 377 #[.int .i64 512,.slice none 0 0,.int .i64 513,.slice none 0 0]
theorem StE.emp {w:World} {st a1 m1 h1 tb a2 m2 c1:Nat} {mk:Bool} (h:StE w st a1 m1 h1 tb a2 m2 c1 mk):Emp w st a1 m1 h1 tb a2 m2 c1 mk 0:=⟨h.pst,h.pa1,h.pm1,h.ph1,own_blk h.ptb,h.pc1⟩
theorem Emp.mod {F:Nat->Prop} {w w':World} {st a1 m1 h1 tb a2 m2 c1:Nat} {mk:Bool} {p:Int} (h:Emp w st a1 m1 h1 tb a2 m2 c1 mk p) (hm:Mod F w w') (hF:∀ k,(k=st∨k=a1∨k=m1∨k=h1∨k=tb∨k=c1)->¬ F k):Emp w' st a1 m1 h1 tb a2 m2 c1 mk p :=
 ⟨h.s.mod hm (hF _ (.inl rfl)),h.a.mod hm (hF _ (.inr (.inl rfl))),h.m.mod hm (hF _ (.inr (.inr (.inl rfl)))),h.h.mod hm (hF _ (.inr (.inr (.inr (.inl rfl))))),h.t.mod hm (hF _ (.inr (.inr (.inr (.inr (.inl rfl)))))),h.c.mod hm (hF _ (.inr (.inr (.inr (.inr (.inr rfl))))))⟩
theorem Emp.keep {w w':World} {st a1 m1 h1 tb a2 m2 c1:Nat} {mk:Bool} {p:Int} (h:Emp w st a1 m1 h1 tb a2 m2 c1 mk p) (hb:Below w.heap.size w w'):Emp w' st a1 m1 h1 tb a2 m2 c1 mk p :=
 h.mod (Mod.ofBelow (F:=fun _=>False) hb) (fun _ _ f=>f)
set_option maxHeartbeats 2000000 in
set_option maxRecDepth 100000 in
theorem begin0 (w:World) (st a1 m1 h1 tb a2 m2 c1:Nat) (p:Int) (h:Emp w st a1 m1 h1 tb a2 m2 c1 false p):Calls Tryz.prog 238 #[.pointer (some ⟨st,0,none⟩)] w fun e w'=>e=.returned (.int .i64 0)/\Emp w' st a1 m1 h1 tb a2 m2 c1 true p/\Mod (fun k=>k=st) w w':=by
 have x11:=h.s.cell 11
 have xf:=h.s.frozen 11
 have xl:=h.s.lt
 simp only[List.getElem?_toArray,List.getElem?_cons_zero,List.getElem?_cons_succ] at x11
 have H:=Lib.hid h
 clear h
 go_enter Tryz.func238,Tryz.ntmps238
 go_wp2_with fail
 go_ret
 have hd:Mod (fun k=>k=st) w (w.setCell ⟨st,11,none⟩ (.bool true)):=(Mod.refl (fun k=>k=st) w).setCell (p:=⟨st,11,none⟩) (fun _=>rfl) _
 exact⟨rfl,⟨by simpa using H.out.s.set_ 11 (.bool true),H.out.a.mod hd (H.out.a.ne_ H.out.s (by decide)),H.out.m.mod hd (H.out.m.ne H.out.s),H.out.h.mod hd (H.out.h.ne_ H.out.s (by decide)),H.out.t.mod hd (H.out.t.ne_ H.out.s (by decide)),H.out.c.mod hd (H.out.c.ne_ H.out.s (by decide))⟩,hd⟩
set_option maxHeartbeats 2000000 in
set_option maxRecDepth 100000 in
theorem commit0 (w:World) (st a1 m1 h1 a2 m2 c1:Nat) (u:Value) (hu:u.oneCell'=true) (h:Blk w st 326 #[.int .i64 0,.int .i64 512,.int .i64 1,.slice none 0 0,.pointer (some ⟨a1,0,none⟩),.map (some m1),.pointer (some ⟨h1,0,none⟩),.slice none 0 0,.pointer (some ⟨a2,0,none⟩),.map (some m2),.pointer (some ⟨c1,0,none⟩),.bool true,u]):Calls Tryz.prog 240 #[.pointer (some ⟨st,0,none⟩)] w fun e w'=>e=.returned (.int .i64 0)/\Blk w' st 326 #[.int .i64 0,.int .i64 512,.int .i64 1,.slice none 0 0,.pointer (some ⟨a1,0,none⟩),.map (some m1),.pointer (some ⟨h1,0,none⟩),.slice none 0 0,.pointer (some ⟨a2,0,none⟩),.map (some m2),.pointer (some ⟨c1,0,none⟩),.bool false,.slice none 0 0]/\Mod (fun k=>k=st) w w':=by
 have x11:=h.cell 11
 have xf:=h.frozen 11
 have x12:=h.cell 12
 have xg:=h.frozen 12
 have xl:=h.lt
 simp only[List.getElem?_toArray,List.getElem?_cons_zero,List.getElem?_cons_succ] at x11 x12
 have H:=Lib.hid h
 clear h
 go_enter Tryz.func240,Tryz.ntmps240
 go_wp2_with fail
 go_ret
 refine⟨rfl,?_,((Mod.refl (fun k=>k=st) w).setCell (p:=⟨st,11,none⟩) (fun _=>rfl) _).setCell (p:=⟨st,12,none⟩) (fun _=>rfl) _⟩
 simpa using (H.out.set_ 11 (.bool false)).set_ 12 (.slice none 0 0)
theorem HasRow.low {B B':Nat} {w:World} {a1 m1 c1:Nat} {r:Value} (h:HasRow B w a1 m1 c1 r) (hb:B'<=B):HasRow B' w a1 m1 c1 r:=by
 obtain⟨g,gc,hl,hc,ge,ec,q1,q2,q3,q4,q5,q6,q7,q8,q9⟩:=h
 exact⟨g,gc,hl,hc,ge,ec,q1,q2,q3,q4,World.ownsRow.low q5 hb,q6,q7,World.ownsRow.low q8 hb,World.ownsRow.low q9 hb⟩
def PutDone (w w':World) (st a1 m1 h1 tb a2 m2 c1:Nat):Prop:=∃ u ka kc,u.oneCell'=true/\kc<=maxLen/\Blk w' st 326 #[.int .i64 0,.int .i64 512,.int .i64 1,.slice none 0 0,.pointer (some ⟨a1,0,none⟩),.map (some m1),.pointer (some ⟨h1,0,none⟩),.slice none 0 0,.pointer (some ⟨a2,0,none⟩),.map (some m2),.pointer (some ⟨c1,0,none⟩),.bool true,u]/\HasRow w.heap.size w' a1 m1 c1 (.slice ka 0 kc)/\Mod (fun k=>k=st∨k=a1∨k=m1∨k=h1∨k=tb∨k=c1) w w'
theorem Tryz.infoFn:(Tryz.prog.info? 1).map (fun i=>(i.zero,i.size,i.bytes))=some (some .nilFunc,1,8):=by kernel_rfl
theorem Tryz.infoI:(Tryz.prog.info? 3).map (fun i=>(i.zero,i.size,i.bytes))=some (some (.int .i64 0),1,8):=by kernel_rfl
set_option maxHeartbeats 8000000 in
set_option maxRecDepth 100000 in
theorem put0 (w:World) (st a1 m1 h1 tb a2 m2 c1:Nat) (va:Option Addr) (vc:Nat) (hvc:vc<=maxLen) (h:Emp w st a1 m1 h1 tb a2 m2 c1 true 0) :
 Calls Tryz.prog 243 #[.pointer (some ⟨st,0,none⟩),.slice va 0 vc] w fun e w'=>e=.returned (.tuple #[.bool true,.int .i64 0])/\PutDone w w' st a1 m1 h1 tb a2 m2 c1:=by
 obtain⟨ii,hii,hj0,hj1,hj2⟩:=info_parts Tryz.infoI
 obtain⟨fi,hfi,hg0,hg1,hg2⟩:=info_parts Tryz.infoFn
 have hmf:∀ (fn:Fn) (first cap:Array Value) (w:World),(Instr.makeFunc fn first cap).run Tryz.prog w=.ok (.func fn first cap) w:=fun _ _ _ _=>rfl
 obtain⟨y,hy⟩:∃ y,w.heap.size=y:=⟨_,rfl⟩
 have b0:Below w.heap.size w (w.alloc (.cells #[.pointer (some ⟨st,0,none⟩)] 183)):=balloc (Below.refl _ _) _
 have q0:=h.keep b0
 have LS:Hid (st<y):=Lib.hid (hy ▸ h.s.lt)
 have HE0:=Lib.hid q0
 have HY0:Hid (Blk (w.alloc (.cells #[.pointer (some ⟨st,0,none⟩)] 183)) y 183 #[.pointer (some ⟨st,0,none⟩)]):=Lib.hid (hy ▸ Blk.new w _ _)
 have HD0:Hid (Mod (fun k=>k=st∨k=a1∨k=m1∨k=h1∨k=tb∨k=c1) w (w.alloc (.cells #[.pointer (some ⟨st,0,none⟩)] 183))):=Lib.hid (Mod.ofBelow b0)
 have HF:=Lib.hid (fits0 _ st _ va vc q0.s rfl hvc)
 clear h b0 q0
 go_enter Tryz.func243,Tryz.ntmps243
 go_wp2_with fail
 refine HF.out.mono ?_
 rintro e w1 ⟨rfl,hb⟩
 have HE1:=Lib.hid (HE0.out.keep hb)
 have HY1:=Lib.hid (HY0.out.below hb HY0.out.lt)
 have HD1:=Lib.hid (HD0.out.trans (Mod.ofBelow (F:=fun _=>False) hb) (fun _ _ f=>f.elim))
 have z0:=HY1.out.cell 0
 have zl:=HY1.out.lt
 simp only[List.getElem?_toArray,List.getElem?_cons_zero] at z0
 have HG:=Lib.hid (slot0 w1 st h1 tb _ va vc HE1.out.s rfl rfl HE1.out.h HE1.out.t hvc)
 clear hb HE0 HY0 HD0 HF
 go_wp2_with fail
 refine HG.out.mono ?_
 rintro e w2 ⟨rfl,hh2,hd2⟩
 have HE2:Hid (Emp w2 st a1 m1 h1 tb a2 m2 c1 true 1):=Lib.hid ⟨HE1.out.s.mod hd2 (HE1.out.s.ne_ HE1.out.h (by decide)),HE1.out.a.mod hd2 (HE1.out.a.ne_ HE1.out.h (by decide)),HE1.out.m.mod hd2 (HE1.out.m.ne HE1.out.h),hh2,HE1.out.t.mod hd2 (HE1.out.t.ne_ HE1.out.h (by decide)),HE1.out.c.mod hd2 (HE1.out.c.ne_ HE1.out.h (by decide))⟩
 have HY2:=Lib.hid (HY1.out.mod hd2 (HY1.out.ne_ HE1.out.h (by decide)))
 have HD2:=Lib.hid (HD1.out.trans hd2 (fun _ _ e=>.inr (.inr (.inr (.inl e)))))
 clear hh2 hd2 z0 zl HE1 HY1 HD1 HG
 go_wp2_with fail
 obtain⟨SS,hSS⟩:∃ SS:World->Prop,SS=fun W=>Blk W y 183 #[.pointer (some ⟨st,0,none⟩)]/\Blk W st 326 #[.int .i64 0,.int .i64 512,.int .i64 1,.slice none 0 0,.pointer (some ⟨a1,0,none⟩),.map (some m1),.pointer (some ⟨h1,0,none⟩),.slice none 0 0,.pointer (some ⟨a2,0,none⟩),.map (some m2),.pointer (some ⟨c1,0,none⟩),.bool true,.slice none 0 0]:=⟨_,rfl⟩
 have HSC:Hid (∀ W,SS W->W.cell? ⟨y,0,none⟩=some (.pointer (some ⟨st,0,none⟩))/\W.cell? ⟨st,1,none⟩=some (.int .i64 512)/\y<W.heap.size/\st<W.heap.size):=Lib.hid (fun W q=>by
  rw[hSS] at q
  obtain⟨r0,r1⟩:=q
  exact⟨(r0.cell 0).trans rfl,(r1.cell 1).trans rfl,r0.lt,r1.lt⟩)
 have HSI:Hid (∀ W,Blk W y 183 #[.pointer (some ⟨st,0,none⟩)]/\Blk W st 326 #[.int .i64 0,.int .i64 512,.int .i64 1,.slice none 0 0,.pointer (some ⟨a1,0,none⟩),.map (some m1),.pointer (some ⟨h1,0,none⟩),.slice none 0 0,.pointer (some ⟨a2,0,none⟩),.map (some m2),.pointer (some ⟨c1,0,none⟩),.bool true,.slice none 0 0]->SS W):=Lib.hid (fun W q=>by rw[hSS];exact q)
 clear hSS
 have HSS:SS w2.drew:=HSI.out _ (⟨HY2.out.drew,HE2.out.s.drew⟩)
 refine wp_region_held_drew (by kernel_rfl) HSS (fun _=>?_)
 refine Held.tk 0 20 HSS ?_
 refine Held.tk 2 22 HSS ?_
 refine Held.tk 3 23 HSS ?_
 refine Held.tk 4 24 HSS ?_
 refine Held.tk 5 25 HSS ?_
 refine Held.on 1 (fun K hK=>?_)
 go_simp
 refine (slen0 w2.drew st a1 _ _ 0 HE2.out.s.drew rfl HE2.out.a.drew rfl).mono ?_
 rintro e w3 ⟨rfl,rfl⟩
 refine hK.out _ _ HSS ?_
 clear hK K
 try simp only[List.setIfInBounds_toArray,List.set_cons_succ,List.set_cons_zero]
 refine Held.tk 6 26 HSS ?_
 refine Held.tk 7 19 HSS ?_
 refine wpAnyH_done (by kernel_rfl) ?_ _
 clear HSS HSC HSI
 have HE3:Hid (Emp w2.drew st a1 m1 h1 tb a2 m2 c1 true 1):=Lib.hid (HE2.out.keep (bdrew (Below.refl _ _)))
 have HY3:=Lib.hid HY2.out.drew
 have HD3:=Lib.hid HD2.out.drew
 obtain⟨w3,hw3⟩:∃ w3,w2.drew=w3:=⟨_,rfl⟩
 rw[hw3] at HE3 HY3 HD3 ⊢
 clear hw3 HE2 HY2 HD2
 have z0:=HY3.out.cell 0
 have zl:=HY3.out.lt
 have x2:=HE3.out.s.cell 2
 have xl:=HE3.out.s.lt
 simp only[List.getElem?_toArray,List.getElem?_cons_zero,List.getElem?_cons_succ] at z0 x2
 obtain⟨ah,hah⟩:∃ ah,w3.heap.size=ah:=⟨_,rfl⟩
 go_wp2_with (at_make;refine wpList_make_full _ rfl _ _ 215 rfl y 3 ii (.int .i64 0) 1 Tryz.underlying215 hii hj0 hj1 _ _ _ _ 1 rfl rfl rfl rfl ?b2 ?b3 ?b4 ?_)
 case b2=>rw[hj2];omega
 case b3=>unfold maxLen;omega
 case b4=>rw[<-hy];exact HD3.out.size
 intro w4 hown4 hgrow4
 try rw[hah] at hown4
 replace hown4:w4.ownsRow y 3 1 (.slice (some ⟨ah,0,none⟩) 1 1) 1 [.int .i64 0]:=by
  have hz:(madeCells #[.int .i64 0] 1).toList=[.int .i64 0]:=by kernel_rfl
  rw[<-hz]
  exact hown4
 have hb4:Below w3.heap.size w3 w4:=(Below.refl _ w3).grown hgrow4 (Nat.le_refl _) (fun q hq=>by cases hq)
 have HA4:=Lib.hid (own_blk hown4)
 have HE4:=Lib.hid (HE3.out.keep hb4)
 have HY4:=Lib.hid (HY3.out.below hb4 HY3.out.lt)
 have HD4:=Lib.hid (HD3.out.trans (Mod.ofBelow (F:=fun _=>False) hb4) (fun _ _ f=>f.elim))
 have LA:=Lib.hid (show y<=ah by have:=HD3.out.size;omega)
 clear hah
 have k0:=hown4.cellAt 0 (by simp)
 have kf:=hown4.frozenAt 0
 have kl:=HA4.out.lt
 simp only[List.getElem?_cons_zero] at k0
 clear hown4 hgrow4 hb4 HE3 HY3 HD3 z0 zl x2 xl
 go_wp2_with fail
 refine wp_loop_rounds 2 ?_
 rw[rounds_succ]
 go_wp2_with fail
 rw[rounds_succ]
 go_wp2_with fail
 obtain⟨w5,hw5⟩:∃ w5,w4.setCell ⟨ah,0,none⟩ (.int .i64 (-1))=w5:=⟨_,rfl⟩
 rw[hw5]
 have hA5:Blk w5 ah 3 #[.int .i64 (-1)]:=hw5 ▸ (by simpa using HA4.out.set_ 0 (.int .i64 (-1)))
 have hd5:Mod (fun k=>k=ah) w4 w5:=hw5 ▸ (Mod.refl (fun k=>k=ah) w4).setCell (p:=⟨ah,0,none⟩) (fun _=>rfl) _
 have HA5:=Lib.hid hA5
 have HE5:=Lib.hid (HE4.out.mod hd5 (fun k hk e=>by
  subst e
  rcases hk with e | e | e | e | e | e
  ·exact HE4.out.s.ne_ HA4.out (by decide) e.symm
  ·exact HE4.out.a.ne_ HA4.out (by decide) e.symm
  ·exact HE4.out.m.ne HA4.out e.symm
  ·exact HE4.out.h.ne_ HA4.out (by decide) e.symm
  ·exact HE4.out.t.ne_ HA4.out (by decide) e.symm
  ·exact HE4.out.c.ne_ HA4.out (by decide) e.symm))
 have HY5:=Lib.hid (HY4.out.mod hd5 (HY4.out.ne_ HA4.out (by decide)))
 have HD5:=Lib.hid (HD4.out.trans hd5 (fun k hk e=>by have:=LA.out;omega))
 clear hw5 hA5 hd5 k0 kf kl HA4 HE4 HY4 HD4
 refine (clone_Val w5 (.slice va 0 vc) [] (rowAt_nil w5 va vc 3 hvc) (by simp) (by simp) (by simp)).mono ?_
 rintro e w6 ⟨v6,rfl,ho6,hb6⟩
 obtain⟨ka,kc,rfl⟩:=own_sl ho6
 have LK:=Lib.hid (show kc<=maxLen by
  rcases ho6.2 with ⟨e,_⟩ | ⟨g',cap',cur,e,_,_,_,q,_⟩
  ·simp only[Value.slice.injEq] at e
   omega
  ·simp only[Value.slice.injEq] at e
   omega)
 simp only[List.length_nil]
 obtain⟨kb,hkb⟩:∃ kb,w6.heap.size=kb:=⟨_,rfl⟩
 have b7:Below w6.heap.size w6 (w6.alloc (.cells #[.slice ka 0 kc] 59)):=balloc (Below.refl _ _) _
 have b57:Below w5.heap.size w5 (w6.alloc (.cells #[.slice ka 0 kc] 59)):=bt2 hb6 b7
 obtain⟨w7,hw7⟩:∃ w7,w6.alloc (.cells #[.slice ka 0 kc] 59)=w7:=⟨_,rfl⟩
 have HB7:Hid (Blk w7 kb 59 #[.slice ka 0 kc]):=Lib.hid (hw7 ▸ hkb ▸ Blk.new _ _ _)
 rw[hw7] at b57
 have HE7:=Lib.hid (HE5.out.keep b57)
 have HY7:=Lib.hid (HY5.out.below b57 HY5.out.lt)
 have HA7:=Lib.hid (HA5.out.below b57 HA5.out.lt)
 have HD7:=Lib.hid (HD5.out.trans (Mod.ofBelow (F:=fun _=>False) b57) (fun _ _ f=>f.elim))
 have HL:=Lib.hid (link0 w7 st a1 m1 h1 tb a2 m2 c1 ah true (.slice none 0 0) ka kc LK.out HE7.out.s HE7.out.a HE7.out.m HE7.out.h HE7.out.t HE7.out.c HA7.out)
 have z0:=HY7.out.cell 0
 have zl:=HY7.out.lt
 have z1:=HB7.out.cell 0
 have z2:=HB7.out.lt
 simp only[List.getElem?_toArray,List.getElem?_cons_zero] at z0 z1
 clear ho6 hb6 b7 b57 HA5 HE5 HY5 HD5
 go_wp2_with fail
 refine HL.out.mono ?_
 rintro e w8 ⟨rfl,hr8,hd8⟩
 have ns:¬ (st=a1∨st=m1∨st=h1∨st=tb∨st=c1):=by
  rintro (e | e | e | e | e)
  ·exact HE7.out.s.ne_ HE7.out.a (by decide) e
  ·exact HE7.out.m.ne HE7.out.s e.symm
  ·exact HE7.out.s.ne_ HE7.out.h (by decide) e
  ·exact HE7.out.s.ne_ HE7.out.t (by decide) e
  ·exact HE7.out.s.ne_ HE7.out.c (by decide) e
 have ny:¬ (y=a1∨y=m1∨y=h1∨y=tb∨y=c1):=by
  rintro (e | e | e | e | e)
  ·exact HY7.out.ne_ HE7.out.a (by decide) e
  ·exact HE7.out.m.ne HY7.out e.symm
  ·exact HY7.out.ne_ HE7.out.h (by decide) e
  ·exact HY7.out.ne_ HE7.out.t (by decide) e
  ·exact HY7.out.ne_ HE7.out.c (by decide) e
 have HS8:=Lib.hid (HE7.out.s.mod hd8 ns)
 have HY8:=Lib.hid (HY7.out.mod hd8 ny)
 have HR8:=Lib.hid (show HasRow y w8 a1 m1 c1 (.slice ka 0 kc) from hr8.low (by have:=HD7.out.size;omega))
 have HD8:=Lib.hid (HD7.out.trans hd8 (fun _ _ e=>.inr e))
 have LB:=Lib.hid (show y<=w8.heap.size by have:=HD7.out.size;have:=hd8.size;omega)
 have NA:=Lib.hid (show st≠a1/\m1≠st/\st≠c1 from ⟨fun e=>ns (.inl e),fun e=>ns (.inr (.inl e.symm)),fun e=>ns (.inr (.inr (.inr (.inr e))))⟩)
 have y0:=HY8.out.cell 0
 have yl:=HY8.out.lt
 have x11:=HS8.out.cell 11
 have xl:=HS8.out.lt
 simp only[List.getElem?_toArray,List.getElem?_cons_zero,List.getElem?_cons_succ] at y0 x11
 clear hr8 hd8 ns ny z0 zl z1 z2 HE7 HY7 HA7 HD7 HB7 HL hw7
 go_upto_region 16 with fail
 clear y0 yl x11 xl
 obtain⟨SS,hSS⟩:∃ SS:World->Prop,SS=fun W=>Blk W y 183 #[.pointer (some ⟨st,0,none⟩)]/\Blk W st 326 #[.int .i64 0,.int .i64 512,.int .i64 1,.slice none 0 0,.pointer (some ⟨a1,0,none⟩),.map (some m1),.pointer (some ⟨h1,0,none⟩),.slice none 0 0,.pointer (some ⟨a2,0,none⟩),.map (some m2),.pointer (some ⟨c1,0,none⟩),.bool true,.slice none 0 0]:=⟨_,rfl⟩
 have HSC:Hid (∀ W,SS W->W.cell? ⟨y,0,none⟩=some (.pointer (some ⟨st,0,none⟩))/\W.cell? ⟨st,12,none⟩=some (.slice none 0 0)/\y<W.heap.size/\st<W.heap.size):=Lib.hid (fun W q=>by
  rw[hSS] at q
  obtain⟨r0,r1⟩:=q
  exact⟨(r0.cell 0).trans rfl,(r1.cell 12).trans rfl,r0.lt,r1.lt⟩)
 have HSI:Hid (∀ W,Blk W y 183 #[.pointer (some ⟨st,0,none⟩)]/\Blk W st 326 #[.int .i64 0,.int .i64 512,.int .i64 1,.slice none 0 0,.pointer (some ⟨a1,0,none⟩),.map (some m1),.pointer (some ⟨h1,0,none⟩),.slice none 0 0,.pointer (some ⟨a2,0,none⟩),.map (some m2),.pointer (some ⟨c1,0,none⟩),.bool true,.slice none 0 0]->SS W):=Lib.hid (fun W q=>by rw[hSS];exact q)
 clear hSS
 have HSS:SS w8.drew:=HSI.out _ (⟨HY8.out.drew,HS8.out.drew⟩)
 refine AnyTill.start SS 10 (by kernel_rfl) ?_
 refine AnyTill.tk 0 51 HSS ?_
 refine AnyTill.tk 1 52 HSS ?_
 refine AnyTill.tk 2 53 HSS ?_
 refine AnyTill.tk 3 54 HSS ?_
 refine AnyTill.tk 4 55 HSS ?_
 refine AnyTill.on 5 (fun K hK=>?_)
 go_simp
 refine hK.out _ _ (fun _=>HSS) ?_
 clear hK K
 try simp only[List.setIfInBounds_toArray,List.set_cons_succ,List.set_cons_zero]
 refine AnyTill.on 6 (fun K hK=>?_)
 go_simp
 have b9:Below w8.heap.size w8 (w8.alloc (.cells #[.func (.func 279) #[] #[.pointer (some ⟨y,0,none⟩),.pointer (some ⟨kb,0,none⟩)]] 1)).drew:=bdrew (balloc (Below.refl _ _) _)
 have HS9:=Lib.hid (HS8.out.below b9 HS8.out.lt)
 have HY9:=Lib.hid (HY8.out.below b9 HY8.out.lt)
 have HR9:=Lib.hid (HR8.out.keep b9)
 have HD9:=Lib.hid (HD8.out.trans (Mod.ofBelow (F:=fun _=>False) b9) (fun _ _ f=>f.elim))
 have hn9:=World.news_of_block (Blk.new w8 1 #[.func (.func 279) #[] #[.pointer (some ⟨y,0,none⟩),.pointer (some ⟨kb,0,none⟩)]]).drew
 obtain⟨w9,hw9⟩:∃ w9,(w8.alloc (.cells #[.func (.func 279) #[] #[.pointer (some ⟨y,0,none⟩),.pointer (some ⟨kb,0,none⟩)]] 1)).drew=w9:=⟨_,rfl⟩
 rw[hw9] at HS9 HY9 HR9 HD9 hn9 ⊢
 have HN9:=Lib.hid hn9
 clear b9 hw9 hn9 HSS
 have HSS:=HSI.out w9 ⟨HY9.out,HS9.out⟩
 refine hK.out _ _ (fun _=>HSS) ?_
 clear hK K HS8 HY8 HR8 HD8
 try simp only[List.setIfInBounds_toArray,List.set_cons_succ,List.set_cons_zero]
 refine AnyTill.on 7 (fun K hK=>?_)
 refine step_append_lies _ rfl (.tmp 55) (.tmp 57) 324 rfl y 1 fi .nilFunc 1 8 Tryz.underlying324 hfi hg0 hg1 hg2 rfl (by decide) (.slice none 0 0) 0 [] rfl (World.ownsRow_nil _ _ _ _) ⟨_,0,none⟩ 1 1 [.func (.func 279) #[] #[.pointer (some ⟨y,0,none⟩),.pointer (some ⟨kb,0,none⟩)]] rfl rfl HN9.out (by simp [Value.oneCell']) (by decide) (by unfold maxLen;omega) (by omega) ?c4 _ rfl ?_
 case c4=>rw[<-hy];exact HD9.out.size
 intro gu cu w10 hown10 hgrow10 hat10 hlt10
 have b10:Below w9.heap.size w9 w10:=(Below.refl _ w9).grown hgrow10 (Nat.le_refl _) (fun q hq=>by cases hq)
 have HS10:=Lib.hid (HS9.out.below b10 HS9.out.lt)
 have HY10:=Lib.hid (HY9.out.below b10 HY9.out.lt)
 have HR10:=Lib.hid (HR9.out.keep b10)
 have HD10:=Lib.hid (HD9.out.trans (Mod.ofBelow (F:=fun _=>False) b10) (fun _ _ f=>f.elim))
 clear hown10 hgrow10 hat10 hlt10 b10 HSS
 have HSS:=HSI.out w10 ⟨HY10.out,HS10.out⟩
 refine hK.out _ _ (fun _=>HSS) ?_
 clear hK K HS9 HY9 HR9 HD9
 simp only[Act.put,List.getElem_toArray,List.getElem_cons_succ,List.getElem_cons_zero,List.setIfInBounds_toArray,List.set_cons_succ,List.set_cons_zero]
 try simp only[List.setIfInBounds_toArray,List.set_cons_succ,List.set_cons_zero]
 refine AnyTill.on 8 (fun K hK=>?_)
 go_simp
 refine hK.out _ _ (fun _=>HSS) ?_
 clear hK K
 try simp only[List.setIfInBounds_toArray,List.set_cons_succ,List.set_cons_zero]
 refine AnyTill.tk 9 60 HSS ?_
 refine AnyTill.on 10 (fun K hK=>?_)
 have x12:=HS10.out.cell 12
 have xf:=HS10.out.frozen 12
 have xl:=HS10.out.lt
 simp only[List.getElem?_toArray,List.getElem?_cons_zero,List.getElem?_cons_succ] at x12
 go_simp
 obtain⟨w11,hw11⟩:∃ w11,w10.setCell ⟨st,12,none⟩ (.slice (some ⟨gu,0,none⟩) 1 cu)=w11:=⟨_,rfl⟩
 rw[hw11]
 have hd:Mod (fun k=>k=st) w10 w11:=hw11 ▸ (Mod.refl (fun k=>k=st) w10).setCell (p:=⟨st,12,none⟩) (fun _=>rfl) _
 have HS11:Hid (Blk w11 st 326 #[.int .i64 0,.int .i64 512,.int .i64 1,.slice none 0 0,.pointer (some ⟨a1,0,none⟩),.map (some m1),.pointer (some ⟨h1,0,none⟩),.slice none 0 0,.pointer (some ⟨a2,0,none⟩),.map (some m2),.pointer (some ⟨c1,0,none⟩),.bool true,.slice (some ⟨gu,0,none⟩) 1 cu]):=Lib.hid (hw11 ▸ (by simpa using HS10.out.set_ 12 (.slice (some ⟨gu,0,none⟩) 1 cu)))
 have HY11:=Lib.hid (HY10.out.mod hd (HY10.out.ne_ HS10.out (by decide)))
 have HR11:=Lib.hid (HR10.out.mod hd (fun e=>NA.out.1 e.symm) NA.out.2.1 (fun e=>NA.out.2.2 e.symm) (fun k e=>.inl (by have:=LS.out;omega)))
 have HD11:=Lib.hid (HD10.out.trans hd (fun _ _ e=>.inl e))
 clear hd hw11 x12 xf xl HSS
 refine hK.out _ _ (fun h=>by simp at h) ?_
 clear hK K HS10 HY10 HR10 HD10
 try simp only[List.setIfInBounds_toArray,List.set_cons_succ,List.set_cons_zero]
 refine AnyTill.done (by kernel_rfl) ?_
 clear HSC HSI
 go_wp2_with fail
 go_ret2
 exact⟨rfl,_,ka,kc,rfl,LK.out,HS11.out,hy ▸ HR11.out,HD11.out⟩
theorem lk_int {P:Program} {w:World} (mty kt et:TypeId) (r c b:Nat) (n:Int) (val:Value) (hm:P.underlying mty=some (.map kt et)) (hk:P.underlying kt=some (.int .i64)) (hb:MapB w r #[{ key:=.int .i64 n,val:=val,born:=b }] c) :
 (Instr.lookup mty (.map (some r)) (.int .i64 n) false).run P w=.ok val w:=by
 have hf:Instr.findNow (.int .i64) (.int .i64 n) [({ key:=.int .i64 n,val:=val,born:=b }:MapEntry)] 0=some (some (0,val)):=by simp [Instr.findNow,Instr.sameNow]
 have hc:(Instr.checkKey false 10000 kt (.int .i64 n)).run P w=.ok () w:=MapKept.run_checkKey (k:=.int .i64 n) hk (by simp [MapKept.IsKey]) false 9999
 simp [Instr.lookup,run_underlying hm,MapKept.run_getObj_map hb,hc,MapKept.run_findKey hk hf,Result.andThen]
theorem lk_str {P:Program} {w:World} (mty kt et:TypeId) (r c b:Nat) (s:ByteArray) (val:Value) (hm:P.underlying mty=some (.map kt et)) (hk:P.underlying kt=some .string) (hb:MapB w r #[{ key:=.string s,val:=val,born:=b }] c) :
 (Instr.lookup mty (.map (some r)) (.string s) false).run P w=.ok val w:=by
 have hf:Instr.findNow .string (.string s) [({ key:=.string s,val:=val,born:=b }:MapEntry)] 0=some (some (0,val)):=by simp [Instr.findNow,Instr.sameNow,(MapKept.bytes_beq s s).2 rfl]
 have hc:(Instr.checkKey false 10000 kt (.string s)).run P w=.ok () w:=MapKept.run_checkKey (k:=.string s) hk (by simp [MapKept.IsKey]) false 9999
 simp [Instr.lookup,run_underlying hm,MapKept.run_getObj_map hb,hc,MapKept.run_findKey hk hf,Result.andThen]
set_option maxHeartbeats 4000000 in
set_option maxRecDepth 100000 in
theorem clist1 (w:World) (c1 g gc:Nat) (x1:Value) (hc1:1<=gc) (h:Blk w c1 377 #[.int .i64 512,x1,.int .i64 513,.slice (some ⟨g,0,none⟩) 1 gc]) :
 Calls Tryz.prog 281 #[.pointer (some ⟨c1,0,none⟩),.int .i64 0] w fun e w'=>e=.returned (.tuple #[.pointer (some ⟨g,0,none⟩),.int .i64 0])/\w'=w:=by
 have c2:=h.cell 2
 have c3:=h.cell 3
 have hlt:=h.lt
 simp only[List.getElem?_toArray,List.getElem?_cons_zero,List.getElem?_cons_succ] at c2 c3
 clear h
 go_enter Tryz.func281,Tryz.ntmps281
 go_wp2_with fail
 refine wp_loop_rounds 1 ?_
 rw[rounds_succ]
 go_wp2_with fail
 go_ret2
 exact⟨rfl,rfl⟩
set_option maxHeartbeats 4000000 in
set_option maxRecDepth 100000 in
theorem rowAt0 (w:World) (B st a1 m1 h1 a2 m2 c1:Nat) (mk:Bool) (u:Value) (ka:Option Addr) (kc:Nat) (hkc:kc<=maxLen) (hs:Blk w st 326 #[.int .i64 0,.int .i64 512,.int .i64 1,.slice none 0 0,.pointer (some ⟨a1,0,none⟩),.map (some m1),.pointer (some ⟨h1,0,none⟩),.slice none 0 0,.pointer (some ⟨a2,0,none⟩),.map (some m2),.pointer (some ⟨c1,0,none⟩),.bool mk,u]) (hr:HasRow B w a1 m1 c1 (.slice ka 0 kc)) :
 Calls Tryz.prog 247 #[.pointer (some ⟨st,0,none⟩),.int .i64 0] w fun e w'=>(∃ a c,e=.returned (.slice a 0 c))/\Below w.heap.size w w':=by
 obtain⟨g,gc,hl,hc,ge,ec,q1,q2,q3,q4,q5,q6,q7,q8,q9⟩:=hr
 have hlk:=lk_int (P:=Tryz.prog) (w:=w.drew) 319 3 381 m1 1 0 0 (.agg #[.int .i64 0,.int .i64 1]) (by kernel_rfl) (by kernel_rfl) q6.drew
 have hw0:IntKind.i64.wrap 0=0:=by kernel_rfl
 have HAt:=Lib.hid (aat0 w.drew a1 g gc q1 _ _ _ q4.drew B q5)
 have HS:=Lib.hid hs
 clear hs q1 q2 q3 q4 q5 q6 q7 q8 q9
 go_enter Tryz.func247,Tryz.ntmps247
 go_wp2_with fail
 obtain⟨SS,hSS⟩:∃ SS:World->Prop,SS=fun W=>Blk W st 326 #[.int .i64 0,.int .i64 512,.int .i64 1,.slice none 0 0,.pointer (some ⟨a1,0,none⟩),.map (some m1),.pointer (some ⟨h1,0,none⟩),.slice none 0 0,.pointer (some ⟨a2,0,none⟩),.map (some m2),.pointer (some ⟨c1,0,none⟩),.bool mk,u]:=⟨_,rfl⟩
 have HSC:Hid (∀ W,SS W->W.cell? ⟨st,2,none⟩=some (.int .i64 1)/\W.cell? ⟨st,4,none⟩=some (.pointer (some ⟨a1,0,none⟩))/\W.cell? ⟨st,5,none⟩=some (.map (some m1))/\st<W.heap.size):=Lib.hid (fun W q=>by
  rw[hSS] at q
  have r0:=q
  exact⟨(r0.cell 2).trans rfl,(r0.cell 4).trans rfl,(r0.cell 5).trans rfl,r0.lt⟩)
 have HSI:Hid (∀ W,Blk W st 326 #[.int .i64 0,.int .i64 512,.int .i64 1,.slice none 0 0,.pointer (some ⟨a1,0,none⟩),.map (some m1),.pointer (some ⟨h1,0,none⟩),.slice none 0 0,.pointer (some ⟨a2,0,none⟩),.map (some m2),.pointer (some ⟨c1,0,none⟩),.bool mk,u]->SS W):=Lib.hid (fun W q=>by rw[hSS];exact q)
 clear hSS
 have HSS:SS w.drew:=HSI.out _ (HS.out.drew)
 refine wp_region_held_drew (by kernel_rfl) HSS (fun _=>?_)
 refine Held.tk 0 8 HSS ?_
 refine Held.tk 1 9 HSS ?_
 refine Held.tk 2 10 HSS ?_
 refine Held.tk 3 11 HSS ?_
 refine Held.tk 4 12 HSS ?_
 refine Held.tk 5 13 HSS ?_
 refine Held.tk 6 14 HSS ?_
 refine Held.tk 7 15 HSS ?_
 refine Held.tk 8 16 HSS ?_
 refine Held.on 9 (fun K hK=>?_)
 go_simp
 refine hK.out _ _ HSS ?_
 clear hK K
 try simp only[List.setIfInBounds_toArray,List.set_cons_succ,List.set_cons_zero]
 refine Held.on 10 (fun K hK=>?_)
 go_simp
 refine hK.out _ _ HSS ?_
 clear hK K
 try simp only[List.setIfInBounds_toArray,List.set_cons_succ,List.set_cons_zero]
 refine Held.on 11 (fun K hK=>?_)
 go_simp
 refine hK.out _ _ HSS ?_
 clear hK K
 try simp only[List.setIfInBounds_toArray,List.set_cons_succ,List.set_cons_zero]
 refine Held.on 12 (fun K hK=>?_)
 have q:=HSC.out _ HSS
 repeat (obtain⟨_,q⟩:=q)
 go_simp
 refine hK.out _ _ HSS ?_
 clear hK K
 clear q
 try simp only[List.setIfInBounds_toArray,List.set_cons_succ,List.set_cons_zero]
 refine Held.on 13 (fun K hK=>?_)
 go_simp
 refine hK.out _ _ HSS ?_
 clear hK K
 try simp only[List.setIfInBounds_toArray,List.set_cons_succ,List.set_cons_zero]
 refine Held.on 14 (fun K hK=>?_)
 go_simp
 refine hK.out _ _ HSS ?_
 clear hK K
 try simp only[List.setIfInBounds_toArray,List.set_cons_succ,List.set_cons_zero]
 refine Held.on 15 (fun K hK=>?_)
 go_simp
 refine HAt.out.mono ?_
 rintro e w1 ⟨rfl,hb⟩
 have HB1:=Lib.hid hb
 clear HSS
 have HSS:=HSI.out w1 (HS.out.drew.below hb HS.out.lt)
 refine hK.out _ _ HSS ?_
 clear hK K hb
 try simp only[List.setIfInBounds_toArray,List.set_cons_succ,List.set_cons_zero]
 refine Held.tk 16 7 HSS ?_
 refine Held.tk 17 24 HSS ?_
 refine Held.tk 18 25 HSS ?_
 refine Held.tk 19 5 HSS ?_
 refine Held.tk 20 6 HSS ?_
 refine wpAnyH_done (by kernel_rfl) ?_ _
 clear HSS HSC HSI hlk
 go_wp2_with fail
 refine (clone_Val w1 (.slice ka 0 kc) [] (rowAt_nil w1 ka kc 3 hkc) (by simp) (by simp) (by simp)).mono ?_
 rintro e w2 ⟨v2,rfl,ho2,hb2⟩
 obtain⟨ra,rc,rfl⟩:=own_sl ho2
 have HB2:=Lib.hid (bt2 (bdrew (Below.refl w.heap.size w)) (bt2 HB1.out hb2))
 clear ho2 hb2
 go_wp2_with fail
 go_ret
 exact⟨⟨_,_,rfl⟩,HB2.out⟩
attribute [local go_sem] Oper.semAt_some
set_option linter.unusedVariables false
def encI (_:Unit):Array Value:=#[.int .i64 0]
def Grow (w w':World):Prop:=w.heap.size<=w'.heap.size
theorem grown_below {w w':World} (h:Below w.heap.size w w'):w.grownBy w' none:=⟨h.os,h.tape,h.output,h.size,fun k hk _=>h.block k hk⟩
theorem abides_below {β:Type} {B:Nat} {J:β->World->Prop} (h:AbidesFrom B J) {s:β} {w w':World} (hb:Below w.heap.size w w') (hs:J s w):J s w':=h s w w' none hs (grown_below hb) (fun r e=>by cases e)
set_option maxHeartbeats 2000000 in
theorem walk_any (c1:Nat) (w:World):Calls Tryz.prog 246 #[.pointer (some ⟨c1,0,none⟩),.int .i64 0] w fun e w' =>
 e=.returned (.func (.func 280) #[] #[.pointer (some ⟨w.heap.size,0,none⟩),.pointer (some ⟨w.heap.size+1,0,none⟩)])/\w'=(w.alloc (.cells #[.pointer (some ⟨c1,0,none⟩)] 323)).alloc (.cells #[.int .i64 0] 3):=by
 have hmf:∀ (fn:Fn) (first cap:Array Value) (w:World),(Instr.makeFunc fn first cap).run Tryz.prog w=.ok (.func fn first cap) w:=fun _ _ _ _=>rfl
 go_enter Tryz.func246,Tryz.ntmps246
 go_wp2
 go_ret
 exact⟨rfl,rfl⟩
set_option maxRecDepth 100000 in
set_option maxHeartbeats 4000000 in
theorem walk1_in (n:Nat) (hn:1<=n) (l Bs B2 c1 hl hc g gc B:Nat) (J Jx:List Unit->World->Prop) (W:World) (h1:W.cell? ⟨Bs,0,none⟩=some (.pointer (some ⟨c1,0,none⟩))) (h2:W.cell? ⟨B2,0,none⟩=some (.int .i64 0))
 (h:Blk W c1 377 #[.int .i64 512,.slice (some ⟨hl,0,none⟩) 1 hc,.int .i64 513,.slice (some ⟨g,0,none⟩) 1 gc]) (hhc:1<=hc) (hgc:1<=gc)
 (hlk:W.ownsRow B 371 3 (.slice (some ⟨hl,0,none⟩) 1 hc) 1 [.int .i64 1,.int .i64 (-1),.int .i64 (-1)]) (hen:W.ownsRow B 369 3 (.slice (some ⟨g,0,none⟩) 1 gc) 1 [.int .i64 0,.int .i64 0,.int .i64 1])
 (hJ:AbidesFrom W.heap.size J)
 (hY:∀ pre x W1,J pre W1->pre.length<1->YieldAt Fence.wide (n - 1) Tryz.prog l (encI x) W1 fun e W'=>(e=.returned (.bool true)/\J (pre++[x]) W'/\Grow W1 W')∨(e=.returned (.bool false)/\Jx (pre++[x]) W'))
 (h0:J [] W) :
 CallsIn Fence.wide n Tryz.prog 280 #[.func (.yield l) #[] #[],.pointer (some ⟨Bs,0,none⟩),.pointer (some ⟨B2,0,none⟩)] W fun e W'=>(∃ v,e=.returned v)/\((∃ xs,xs=[()]/\J xs W')∨(∃ pre,pre=[()]/\Jx pre W')):=by
 obtain⟨ii,hii,hj0,hj1,hj2⟩:=info_parts Tryz.infoI
 refine callsIn_of_wp Tryz.func280 rfl trivial ?_ rfl
 simp only[Tryz.ntmps280,List.size_toArray,List.length_cons,List.length_nil,Nat.reduceAdd,Nat.reduceSub,Array.replicate_succ,Array.replicate_zero,List.push_toArray,List.append_toArray,List.nil_append,List.cons_append]
 have n0:=hen.cellAt 0 (by simp)
 have n2:=hen.cellAt 2 (by simp)
 have l2:=hlk.cellAt 2 (by simp)
 have gl:=World.block_lt_of_cell? _ _ n0
 have hll:=World.block_lt_of_cell? _ _ l2
 simp only[List.getElem?_cons_zero,List.getElem?_cons_succ] at n0 n2 l2 gl hll
 have x1:=h.cell 1
 have xl:=h.lt
 simp only[List.getElem?_toArray,List.getElem?_cons_zero,List.getElem?_cons_succ] at x1
 have bl:=World.block_lt_of_cell? _ _ h1
 simp only at bl
 have HL:=Lib.hid (clist1 W c1 g gc _ hgc h)
 have HJ:=Lib.hid hJ
 have HY:=Lib.hid hY
 have H0:=Lib.hid h0
 have HC:=Lib.hid (show W.cell? ⟨g,0,none⟩=some (.int .i64 0)/\W.cell? ⟨hl,2,none⟩=some (.int .i64 (-1))/\W.cell? ⟨c1,1,none⟩=some (.slice (some ⟨hl,0,none⟩) 1 hc)/\W.cell? ⟨Bs,0,none⟩=some (.pointer (some ⟨c1,0,none⟩)) from ⟨n0,l2,x1,h1⟩)
 have HLT:=Lib.hid (show g<W.heap.size/\hl<W.heap.size/\c1<W.heap.size/\Bs<W.heap.size from ⟨gl,hll,xl,bl⟩)
 clear h hlk hen hJ hY h0
 gi_wp2_with fail
 refine⟨trivial,?_⟩
 refine (callsIn_wide.2 HL.out).mono ?_
 rintro e w1 ⟨rfl,hw1⟩
 subst hw1
 obtain⟨q,hq⟩:∃ q,w1.heap.size=q:=⟨_,rfl⟩
 gi_wp2_with (gi_at_make;refine wpListIn_make_own _ rfl _ _ 215 rfl q 3 ii (.int .i64 0) 1 Tryz.underlying215 hii hj0 hj1 _ _ _ 1 rfl rfl rfl ?b2 ?b3 ?b4 ?_)
 case b2=>rw[hj2];omega
 case b3=>unfold maxLen;omega
 case b4=>omega
 intro w2 hown2 hgrow2
 have hb2:Below w1.heap.size w1 w2:=(Below.refl _ w1).grown hgrow2 (Nat.le_refl _) (fun q hq=>by cases hq)
 have c0:=(hb2.cell (p:=⟨g,0,none⟩) gl).trans n0
 try rw[hq] at hown2
 have HO2:=Lib.hid hown2
 have HB2:=Lib.hid hb2
 have gl2:=Nat.lt_of_lt_of_le gl hb2.size
 clear n0 n2 l2 x1 h1 h2 hown2 hgrow2 hb2
 gi_wp2_with fail
 refine wpIn_loop_rounds 2 ?_
 rw[roundsIn_succ]
 gi_wp2_with (gi_at_builtin;refine wpListIn_append_fits _ rfl (.tmp 38) (.tmp 40) 215 rfl q 3 ii 1 Tryz.underlying215 hii hj1 q 0 1 [] rfl (HO2.out.alloc _) ⟨_,0,none⟩ 1 1 [.int .i64 0] rfl rfl (World.news_of_block (Blk.new _ _ _)) (by simp [Value.oneCell']) (by decide) ?_)
 intro w3 hown3 hgrow3
 have hb3:Below w1.heap.size w1 w3:=by
  rw[hq]
  have hm:Mod (fun k=>k=q) w1 w3:=((Mod.ofBelow (F:=fun k=>k=q) HB2.out).alloc _).grown hgrow3 (fun k hk _=>by cases hk;rfl)
  exact hm.below (by rw[hq];exact Nat.le_refl _) (fun k e=>by omega)
 have d0:=(hb3.cell (p:=⟨Bs,0,none⟩) HLT.out.2.2.2).trans HC.out.2.2.2
 have d1:=(hb3.cell (p:=⟨c1,1,none⟩) HLT.out.2.2.1).trans HC.out.2.2.1
 have d2:=(hb3.cell (p:=⟨hl,2,none⟩) HLT.out.2.1).trans HC.out.2.1
 have hz:=hb3.size
 have e0:=Nat.lt_of_lt_of_le HLT.out.2.2.2 hz
 have e1:=Nat.lt_of_lt_of_le HLT.out.2.2.1 hz
 have e2:=Nat.lt_of_lt_of_le HLT.out.2.1 hz
 have k0:=hown3.cellAt 0 (by simp)
 have kl:=World.block_lt_of_cell? _ _ k0
 simp only[List.getElem?_cons_zero] at k0 kl
 have HJ3:=Lib.hid (abides_below HJ.out hb3 H0.out)
 clear hown3 hgrow3 hb3 c0 gl2 hz HO2 HB2
 gi_wp2_with fail
 rw[roundsIn_succ]
 gi_wp2_with fail
 refine wpIn_loop_rounds 2 ?_
 rw[roundsIn_succ]
 obtain⟨fn,tmps,assign,body,hy,hR⟩:=HY.out [] () w3 HJ3.out (by simp)
 unfold encI at hy
 gi_wp2
 refine hR.mono ?_
 clear hR hy
 rintro e W3 (⟨rfl,hJ4,hk4⟩ | ⟨rfl,hJx⟩)
 ·have HJ4:=Lib.hid hJ4
  clear hJ4 hk4
  gi_wp2
  rw[roundsIn_succ]
  gi_wp2
  go_end0
  exact⟨⟨_,rfl⟩,.inl ⟨[()],rfl,HJ4.out⟩⟩
 ·have HJX:=Lib.hid hJx
  clear hJx
  gi_wp2
  refine bodyPost_ret (results_none rfl _ _ _) rfl ?_
  exact⟨⟨_,rfl⟩,.inr ⟨[()],rfl,HJX.out⟩⟩
theorem walk_stops (n:Nat) (hn:1<=n) (Bs B2 c1 hl hc g gc B:Nat) (w:World) (h1:w.cell? ⟨Bs,0,none⟩=some (.pointer (some ⟨c1,0,none⟩))) (h2:w.cell? ⟨B2,0,none⟩=some (.int .i64 0))
 (h:Blk w c1 377 #[.int .i64 512,.slice (some ⟨hl,0,none⟩) 1 hc,.int .i64 513,.slice (some ⟨g,0,none⟩) 1 gc]) (hhc:1<=hc) (hgc:1<=gc)
 (hlk:w.ownsRow B 371 3 (.slice (some ⟨hl,0,none⟩) 1 hc) 1 [.int .i64 1,.int .i64 (-1),.int .i64 (-1)]) (hen:w.ownsRow B 369 3 (.slice (some ⟨g,0,none⟩) 1 gc) 1 [.int .i64 0,.int .i64 0,.int .i64 1]) :
 SeqStopsK Fence.wide n Tryz.prog 280 #[.pointer (some ⟨Bs,0,none⟩),.pointer (some ⟨B2,0,none⟩)] encI Grow (fun xs=>xs=[()]) (fun pre=>pre=[()]) 1 w :=
 fun l J Jx W hW hJ hJx hY h0 =>
  walk1_in n hn l Bs B2 c1 hl hc g gc B J Jx W ((hW.cell (p:=⟨Bs,0,none⟩) (World.block_lt_of_cell? w _ h1)).trans h1) ((hW.cell (p:=⟨B2,0,none⟩) (World.block_lt_of_cell? w _ h2)).trans h2) (h.below hW h.lt) hhc hgc
   ((Mod.ofBelow (F:=fun _=>False) hW).ownsRow hlk (fun _ _ f=>f)) ((Mod.ofBelow (F:=fun _=>False) hW).ownsRow hen (fun _ _ f=>f)) hJ hY h0
end Go.Proofs.YtgopfpjinohncaaGreatDoor
