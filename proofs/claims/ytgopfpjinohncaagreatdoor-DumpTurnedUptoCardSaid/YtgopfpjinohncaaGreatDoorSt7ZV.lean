/- chain.Lists: Append of cell 0 to list 0 of lists with nothing in them; walked. store.Store.link of a row into an empty store, walked (printed by mkst8.py). -/
import Derived.Test.YtgopfpjinohncaaGreatDoorCyV
import Derived.Test.YtgopfpjinohncaaGreatDoorGaV
import Derived.Test.YtgopfpjinohncaaGreatDoorSt4ZV
import Derived.Test.YtgopfpjinohncaaGreatDoorSkgZV
import Derived.LoopN
namespace Go.Proofs.YtgopfpjinohncaaGreatDoor
open Go.RowKit
set_option linter.unusedVariables false
theorem Tryz.infoEnds:(Tryz.prog.info? 369).map (fun i=>(i.zero,i.size,i.bytes))=some (some (.agg #[.int .i64 0,.int .i64 0,.int .i64 0]),3,24):=by kernel_rfl
theorem Tryz.infoLink:(Tryz.prog.info? 371).map (fun i=>(i.zero,i.size,i.bytes))=some (some (.agg #[.int .i64 0,.int .i64 0,.int .i64 0]),3,24):=by kernel_rfl
set_option maxHeartbeats 4000000 in
set_option maxRecDepth 100000 in
theorem clist0 (w:World) (c1:Nat) (h:Blk w c1 377 #[.int .i64 512,.slice none 0 0,.int .i64 513,.slice none 0 0]) :
 Calls Tryz.prog 281 #[.pointer (some ⟨c1,0,none⟩),.int .i64 0] w fun e w'=>∃ g cap,e=.returned (.tuple #[.pointer (some ⟨g,0,none⟩),.int .i64 0])/\1<=cap /\
  Blk w' c1 377 #[.int .i64 512,.slice none 0 0,.int .i64 513,.slice (some ⟨g,0,none⟩) 1 cap]/\w'.ownsRow w.heap.size 369 3 (.slice (some ⟨g,0,none⟩) 1 cap) 1 [.int .i64 (-1),.int .i64 (-1),.int .i64 0]/\Mod (fun k=>k=c1) w w':=by
 obtain⟨i0,hi0,hz0,hz1,hz2⟩:=info_parts Tryz.infoEnds
 have c2:=h.cell 2
 have c3:=h.cell 3
 have hlt:=h.lt
 simp only[List.getElem?_toArray,List.getElem?_cons_zero,List.getElem?_cons_succ] at c2 c3
 have HA:=Lib.hid h
 clear h
 go_enter Tryz.func281,Tryz.ntmps281
 go_wp2_with fail
 refine wp_loop_rounds 2 ?_
 rw[rounds_succ]
 go_wp2_with (at_builtin;refine wpList_append_lies _ rfl (.tmp 27) (.tmp 29) 375 rfl w.heap.size 369 i0 (.agg #[.int .i64 0,.int .i64 0,.int .i64 0]) 3 24 Tryz.underlying375 hi0 hz0 hz1 hz2 rfl (by decide) (.slice none 0 0) 0 [] rfl (World.ownsRow_nil _ _ _ _) ⟨w.heap.size,0,none⟩ 1 1 [.int .i64 (-1),.int .i64 (-1),.int .i64 0] rfl rfl ?c1 ?c2 (by decide) (by unfold maxLen;omega) (by simp) (by simp<;>omega) (w.heap.size+1) (by simp) ?_)
 case c1=>exact World.news_of_block (Blk.new w 369 #[.int .i64 (-1),.int .i64 (-1),.int .i64 0])
 case c2=>intro u hu;simp at hu;rcases hu with rfl | rfl<;>rfl
 intro g1 cap1 w1 hown1 hgrow1 hat1 hlt1
 have b1:=(HA.out.alloc (.cells #[.int .i64 (-1),.int .i64 (-1),.int .i64 0] 369)).grown hgrow1 (by simp [Value.ownBlock])
 have hm:Mod (fun k=>k=c1) w w1:=((Mod.refl _ w).alloc _).grown hgrow1 (by simp [Value.ownBlock])
 have e3:=b1.frozen 3
 have d3:=b1.cell 3
 have el:=b1.lt
 simp only[List.getElem?_toArray,List.getElem?_cons_zero,List.getElem?_cons_succ] at d3
 have hcap:1<=cap1:=by
  rcases hown1.2 with ⟨e,_⟩ | ⟨g',cap',cur,e,_,_,q,_⟩
  ·cases e
  ·simp only[Value.slice.injEq] at e
   omega
 have hgp:g1≠c1:=fun e=>own_blk_ne hown1 b1 (by decide) (by simp [Value.ownBlock,e])
 have HO:=Lib.hid hown1
 have HB:=Lib.hid b1
 have HM:=Lib.hid hm
 clear hown1 hgrow1 b1 hm hat1 c2 c3 hlt
 go_wp2_with fail
 rw[rounds_succ]
 go_wp2_with fail
 refine bodyPost_ret (v:=.tuple #[.pointer (some ⟨g1,0,none⟩),.int .i64 0]) (by simp [results,Tryz.results281,go_sem, *]) rfl ⟨g1,cap1,rfl,hcap,?_,?_,?_⟩
 ·simpa using HB.out.set_ 3 (.slice (some ⟨g1,0,none⟩) 1 cap1)
 ·have o:=((Mod.refl (fun k=>k=c1) w1).setCell (p:=⟨c1,3,none⟩) (fun _=>rfl) (.slice (some ⟨g1,0,none⟩) 1 cap1)).ownsRow HO.out (fun k hk e=>by simp [Value.ownBlock] at hk;omega)
  simpa using o
 ·exact HM.out.setCell (p:=⟨c1,3,none⟩) (fun _=>rfl) _
set_option maxHeartbeats 4000000 in
set_option maxRecDepth 100000 in
theorem cloose0 (w:World) (c1:Nat) (X:Value) (h:Blk w c1 377 #[.int .i64 512,.slice none 0 0,.int .i64 513,X]) :
 Calls Tryz.prog 328 #[.pointer (some ⟨c1,0,none⟩),.int .i64 0] w fun e w'=>∃ g cap,e=.returned (.tuple #[.pointer (some ⟨g,0,none⟩),.int .i64 0])/\1<=cap /\
  Blk w' c1 377 #[.int .i64 512,.slice (some ⟨g,0,none⟩) 1 cap,.int .i64 513,X]/\w'.ownsRow w.heap.size 371 3 (.slice (some ⟨g,0,none⟩) 1 cap) 1 [.int .i64 0,.int .i64 0,.int .i64 0]/\Mod (fun k=>k=c1) w w':=by
 obtain⟨i0,hi0,hz0,hz1,hz2⟩:=info_parts Tryz.infoLink
 have c0:=h.cell 0
 have c1':=h.cell 1
 have hlt:=h.lt
 simp only[List.getElem?_toArray,List.getElem?_cons_zero,List.getElem?_cons_succ] at c0 c1'
 have HA:=Lib.hid h
 clear h
 go_enter Tryz.func328,Tryz.ntmps328
 go_wp2_with fail
 refine wp_loop_rounds 2 ?_
 rw[rounds_succ]
 go_wp2_with (at_builtin;refine wpList_append_lies _ rfl (.tmp 27) (.tmp 29) 372 rfl w.heap.size 371 i0 (.agg #[.int .i64 0,.int .i64 0,.int .i64 0]) 3 24 Tryz.underlying372 hi0 hz0 hz1 hz2 rfl (by decide) (.slice none 0 0) 0 [] rfl (World.ownsRow_nil _ _ _ _) ⟨w.heap.size,0,none⟩ 1 1 [.int .i64 0,.int .i64 0,.int .i64 0] rfl rfl ?c1 ?c2 (by decide) (by unfold maxLen;omega) (by simp) (by simp<;>omega) (w.heap.size+1) (by simp) ?_)
 case c1=>exact World.news_of_block (Blk.new w 371 #[.int .i64 0,.int .i64 0,.int .i64 0])
 case c2=>intro u hu;simp at hu;rcases hu with rfl;rfl
 intro g1 cap1 w1 hown1 hgrow1 hat1 hlt1
 have b1:=(HA.out.alloc (.cells #[.int .i64 0,.int .i64 0,.int .i64 0] 371)).grown hgrow1 (by simp [Value.ownBlock])
 have hm:Mod (fun k=>k=c1) w w1:=((Mod.refl _ w).alloc _).grown hgrow1 (by simp [Value.ownBlock])
 have e3:=b1.frozen 1
 have d3:=b1.cell 1
 have el:=b1.lt
 simp only[List.getElem?_toArray,List.getElem?_cons_zero,List.getElem?_cons_succ] at d3
 have hcap:1<=cap1:=by
  rcases hown1.2 with ⟨e,_⟩ | ⟨g',cap',cur,e,_,_,q,_⟩
  ·cases e
  ·simp only[Value.slice.injEq] at e
   omega
 have hgp:g1≠c1:=fun e=>own_blk_ne hown1 b1 (by decide) (by simp [Value.ownBlock,e])
 have hpg:c1≠g1:=fun e=>hgp e.symm
 have l0:=hown1.cellAt 0 (by simp)
 have gl:=World.block_lt_of_cell? _ _ l0
 simp only[List.getElem?_cons_zero] at l0
 have HO:=Lib.hid hown1
 have HB:=Lib.hid b1
 have HM:=Lib.hid hm
 clear hown1 hgrow1 b1 hm hat1 c0 c1' hlt
 go_wp2_with fail
 rw[rounds_succ]
 go_wp2_with fail
 refine bodyPost_ret (v:=.tuple #[.pointer (some ⟨g1,0,none⟩),.int .i64 0]) (by simp [results,Tryz.results328,go_sem, *]) rfl ⟨g1,cap1,rfl,hcap,?_,?_,?_⟩
 ·simpa using HB.out.set_ 1 (.slice (some ⟨g1,0,none⟩) 1 cap1)
 ·have o:=((Mod.refl (fun k=>k=c1) w1).setCell (p:=⟨c1,1,none⟩) (fun _=>rfl) (.slice (some ⟨g1,0,none⟩) 1 cap1)).ownsRow HO.out (fun k hk e=>by simp [Value.ownBlock] at hk;omega)
  simpa using o
 ·exact HM.out.setCell (p:=⟨c1,1,none⟩) (fun _=>rfl) _
set_option maxHeartbeats 4000000 in
set_option maxRecDepth 100000 in
theorem cins0 (w:World) (c1 h1 hc g gc B:Nat) (h:Blk w c1 377 #[.int .i64 512,.slice (some ⟨h1,0,none⟩) 1 hc,.int .i64 513,.slice (some ⟨g,0,none⟩) 1 gc]) (hc1:1<=hc) (gc1:1<=gc)
 (hl:w.ownsRow B 371 3 (.slice (some ⟨h1,0,none⟩) 1 hc) 1 [.int .i64 0,.int .i64 0,.int .i64 0]) (he:w.ownsRow B 369 3 (.slice (some ⟨g,0,none⟩) 1 gc) 1 [.int .i64 (-1),.int .i64 (-1),.int .i64 0]) :
 Calls Tryz.prog 329 #[.pointer (some ⟨c1,0,none⟩),.int .i64 0,.int .i64 0,.int .i64 (-1),.int .i64 (-1)] w fun e w'=>e=.returned (.tuple #[]) /\
  w'.ownsRow B 371 3 (.slice (some ⟨h1,0,none⟩) 1 hc) 1 [.int .i64 1,.int .i64 (-1),.int .i64 (-1)]/\w'.ownsRow B 369 3 (.slice (some ⟨g,0,none⟩) 1 gc) 1 [.int .i64 0,.int .i64 0,.int .i64 1]/\Mod (fun k=>k=h1∨k=g) w w':=by
 have x1:=h.cell 1
 have x3:=h.cell 3
 have xl:=h.lt
 simp only[List.getElem?_toArray,List.getElem?_cons_zero,List.getElem?_cons_succ] at x1 x3
 have l0:=hl.cellAt 0 (by simp)
 have l1:=hl.cellAt 1 (by simp)
 have l2:=hl.cellAt 2 (by simp)
 have m0:=hl.frozenAt 0
 have m1:=hl.frozenAt 1
 have m2:=hl.frozenAt 2
 have n0:=he.cellAt 0 (by simp)
 have n1:=he.cellAt 1 (by simp)
 have n2:=he.cellAt 2 (by simp)
 have p0:=he.frozenAt 0
 have p1:=he.frozenAt 1
 have p2:=he.frozenAt 2
 have gl:=World.block_lt_of_cell? _ _ n0
 have hll:=World.block_lt_of_cell? _ _ l0
 simp only[List.getElem?_cons_zero,List.getElem?_cons_succ] at l0 l1 l2 n0 n1 n2 gl hll
 have ngh:g≠h1:=fun e=>own_own_ne hl he (by decide) (k:=h1) (by simp [Value.ownBlock]) (by simp [Value.ownBlock,e])
 have nhg:h1≠g:=fun e=>ngh e.symm
 have ncg:c1≠g:=fun e=>own_blk_ne he h (by decide) (by simp [Value.ownBlock,e])
 have nch:c1≠h1:=fun e=>own_blk_ne hl h (by decide) (by simp [Value.ownBlock,e])
 have HL:=Lib.hid hl
 have HE:=Lib.hid he
 clear h hl he
 go_enter Tryz.func329,Tryz.ntmps329
 go_wp2_with fail
 have o1:=own_set3 (k:=0) (rows:=[[.int .i64 0,.int .i64 0,.int .i64 0]]) (a:=.int .i64 1) (b:=.int .i64 (-1)) (c:=.int .i64 (-1)) HL.out (by simp) rfl (by omega) rfl rfl rfl
 have e1:=o1.2.ownsRow HE.out (fun k hk e=>by simp [Value.ownBlock] at hk;omega)
 have e2:=((e1.stored 2 (.int .i64 1)).1.stored 0 (.int .i64 0)).1.stored 1 (.int .i64 0)
 have m2:=(((Mod.mono o1.2 (G:=fun k=>k=h1∨k=g) (fun _ _ q=>.inl q)).setCell (p:=⟨g,2,none⟩) (fun _=>.inr rfl) (.int .i64 1)).setCell (p:=⟨g,0,none⟩) (fun _=>.inr rfl) (.int .i64 0)).setCell (p:=⟨g,1,none⟩) (fun _=>.inr rfl) (.int .i64 0)
 go_end0
 refine⟨rfl,?_,e2.1,m2⟩
 refine Mod.ownsRow ((((Mod.refl (fun k=>k=g) _).setCell (p:=⟨g,2,none⟩) (fun _=>rfl) _).setCell (p:=⟨g,0,none⟩) (fun _=>rfl) _).setCell (p:=⟨g,1,none⟩) (fun _=>rfl) _) o1.1 (fun k hk e=>?_)
 simp [Value.ownBlock] at hk
 omega
set_option maxHeartbeats 4000000 in
set_option maxRecDepth 100000 in
theorem capp0 (w:World) (c1:Nat) (h:Blk w c1 377 #[.int .i64 512,.slice none 0 0,.int .i64 513,.slice none 0 0]) :
 Calls Tryz.prog 308 #[.pointer (some ⟨c1,0,none⟩),.int .i64 0,.int .i64 0] w fun e w'=>∃ h1 hc g gc,e=.returned (.int .i64 0)/\1<=hc/\1<=gc /\
  Blk w' c1 377 #[.int .i64 512,.slice (some ⟨h1,0,none⟩) 1 hc,.int .i64 513,.slice (some ⟨g,0,none⟩) 1 gc] /\
  w'.ownsRow w.heap.size 371 3 (.slice (some ⟨h1,0,none⟩) 1 hc) 1 [.int .i64 1,.int .i64 (-1),.int .i64 (-1)]/\w'.ownsRow w.heap.size 369 3 (.slice (some ⟨g,0,none⟩) 1 gc) 1 [.int .i64 0,.int .i64 0,.int .i64 1]/\Mod (fun k=>k=c1) w w':=by
 have HL:=Lib.hid (clist0 w c1 h)
 clear h
 go_enter Tryz.func308,Tryz.ntmps308
 go_wp2_with fail
 refine HL.out.mono ?_
 rintro e w1 ⟨g,gc,rfl,hgc,hb1,ho1,hm1⟩
 have HB:=Lib.hid hb1
 have HO:=Lib.hid ho1
 have HM:=Lib.hid hm1
 have HLo:=Lib.hid (cloose0 w1 c1 _ hb1)
 clear hb1 ho1 hm1 HL
 go_wp2_with fail
 refine HLo.out.mono ?_
 rintro e w2 ⟨h1,hc,rfl,hhc,hb2,ho2,hm2⟩
 have hgo:=hm2.ownsRow HO.out (fun k hk e=>own_blk_ne HO.out HB.out (by decide) (by rw[hk,e]))
 have n1:=hgo.cellAt 1 (by simp)
 have gl:=World.block_lt_of_cell? _ _ n1
 simp only[List.getElem?_cons_zero,List.getElem?_cons_succ] at n1 gl
 have ncg:c1≠g:=fun e=>own_blk_ne hgo hb2 (by decide) (by simp [Value.ownBlock,e])
 have nch:c1≠h1:=fun e=>own_blk_ne ho2 hb2 (by decide) (by simp [Value.ownBlock,e])
 have lg:=(hgo.lt g rfl).1
 have lh:=(ho2.lt h1 rfl).1
 have sz:=HM.out.size
 have HI:=Lib.hid (cins0 w2 c1 h1 hc g gc w.heap.size hb2 hhc hgc (World.ownsRow.low ho2 sz) hgo)
 have HB2:=Lib.hid hb2
 have HM2:=Lib.hid (HM.out.trans hm2 (fun _ _ q=>q))
 clear hb2 ho2 hm2 HB HO HM HLo hgo
 go_wp2_with fail
 refine HI.out.mono ?_
 rintro e w3 ⟨rfl,hl3,he3,hm3⟩
 have HL3:=Lib.hid hl3
 have HE3:=Lib.hid he3
 have HM3:=Lib.hid hm3
 clear hl3 he3 hm3 n1 gl
 go_wp2_with fail
 go_ret
 exact⟨h1,hc,g,gc,rfl,hhc,hgc,HB2.out.mod HM3.out (by simp [ncg,nch]),HL3.out,HE3.out,HM2.out.trans HM3.out (fun k hk q=>by rcases q with q | q<;>omega)⟩
theorem Mod.undrew {F:Nat->Prop} {w w':World} (h:Mod F w.drew w'):Mod F w w':=⟨h.os,h.tape,h.output,h.size,h.block⟩
theorem own_typed {w:World} {B n size:Nat} {e:TypeId} {v:Value} {xs:List Value} (h:w.ownsRow B e size v n xs) {k:Nat} (hk:v.ownBlock=some k):∃ cur,Blk w k e cur:=by
 rcases h.2 with ⟨rfl,_⟩ | ⟨g,cap,cur,rfl,_,hg,_⟩
 ·simp [Value.ownBlock] at hk
 ·simp [Value.ownBlock] at hk
  subst hk
  exact⟨cur,hg⟩
def HasRow (B:Nat) (w:World) (a1 m1 c1:Nat) (r:Value):Prop:=∃ g gc hl hc ge ec,1<=gc/\1<=hc/\1<=ec/\Blk w a1 394 #[.int .i64 512,.int .i64 1073741824,.slice (some ⟨g,0,none⟩) 1 gc,.slice none 0 0,.int .i64 1] /\
 w.ownsRow B 418 3 (.slice (some ⟨g,0,none⟩) 1 gc) 1 [.int .i64 1,.bool true,r]/\MapB w m1 #[{ key:=.int .i64 0,val:=.agg #[.int .i64 0,.int .i64 1],born:=0 }] 1/\Blk w c1 377 #[.int .i64 512,.slice (some ⟨hl,0,none⟩) 1 hc,.int .i64 513,.slice (some ⟨ge,0,none⟩) 1 ec] /\
 w.ownsRow B 371 3 (.slice (some ⟨hl,0,none⟩) 1 hc) 1 [.int .i64 1,.int .i64 (-1),.int .i64 (-1)]/\w.ownsRow B 369 3 (.slice (some ⟨ge,0,none⟩) 1 ec) 1 [.int .i64 0,.int .i64 0,.int .i64 1]
theorem HasRow.mod {F:Nat->Prop} {B:Nat} {w w':World} {a1 m1 c1:Nat} {r:Value} (h:HasRow B w a1 m1 c1 r) (hm:Mod F w w') (f1:¬ F a1) (f2:¬ F m1) (f3:¬ F c1) (f4:∀ k,F k->k<B∨w.heap.size<=k):HasRow B w' a1 m1 c1 r:=by
 obtain⟨g,gc,hl,hc,ge,ec,q1,q2,q3,q4,q5,q6,q7,q8,q9⟩:=h
 have hf:∀ (e:TypeId) (k c:Nat) (xs:List Value),w.ownsRow B e 3 (.slice (some ⟨k,0,none⟩) 1 c) 1 xs->w'.ownsRow B e 3 (.slice (some ⟨k,0,none⟩) 1 c) 1 xs:=fun e k c xs q=>hm.ownsRow q fun j hj fj=>by
  have:=q.lt j hj
  rcases f4 j fj with z | z<;>omega
 exact⟨g,gc,hl,hc,ge,ec,q1,q2,q3,q4.mod hm f1,hf _ _ _ _ q5,q6.mod hm f2,q7.mod hm f3,hf _ _ _ _ q8,hf _ _ _ _ q9⟩
theorem HasRow.keep {B:Nat} {w w':World} {a1 m1 c1:Nat} {r:Value} (h:HasRow B w a1 m1 c1 r) (hb:Below w.heap.size w w'):HasRow B w' a1 m1 c1 r :=
 h.mod (Mod.ofBelow (F:=fun _=>False) hb) (fun f=>f) (fun f=>f) (fun f=>f) (fun _ f=>f.elim)
set_option maxHeartbeats 8000000 in
set_option maxRecDepth 100000 in
theorem link0 (w:World) (st a1 m1 h1 tb a2 m2 c1 ah:Nat) (mk:Bool) (u:Value) (va:Option Addr) (vc:Nat) (hvc:vc<=maxLen) (hs:Blk w st 326 #[.int .i64 0,.int .i64 512,.int .i64 1,.slice none 0 0,.pointer (some ⟨a1,0,none⟩),.map (some m1),.pointer (some ⟨h1,0,none⟩),.slice none 0 0,.pointer (some ⟨a2,0,none⟩),.map (some m2),.pointer (some ⟨c1,0,none⟩),.bool mk,u]) (ha:Blk w a1 394 #[.int .i64 512,.int .i64 1073741824,.slice none 0 0,.slice none 0 0,.int .i64 0]) (hm:MapB w m1 #[] 0)
 (hh:Blk w h1 397 #[.int .i64 512,.int .i64 0,.int .i64 0,.int .i64 1,.slice (some ⟨tb,0,none⟩) 8 8]) (ht:Blk w tb 428 zeroP.toArray) (hc:Blk w c1 377 #[.int .i64 512,.slice none 0 0,.int .i64 513,.slice none 0 0]) (hah:Blk w ah 3 #[.int .i64 (-1)]) :
 Calls Tryz.prog 277 #[.pointer (some ⟨st,0,none⟩),.slice va 0 vc,.slice (some ⟨ah,0,none⟩) 1 1] w fun e w'=>e=.returned (.int .i64 0)/\HasRow w.heap.size w' a1 m1 c1 (.slice va 0 vc)/\Mod (fun k=>k=a1∨k=m1∨k=h1∨k=tb∨k=c1) w w':=by
 have HT0:=Lib.hid (take0 w a1 va 0 vc ha)
 have nsa:st≠a1:=hs.ne_ ha (by decide)
 have nma:m1≠a1:=hm.ne ha
 have nmh:m1≠h1:=hm.ne hh
 have nmt:m1≠tb:=hm.ne ht
 have nms:m1≠st:=hm.ne hs
 have nmc:m1≠c1:=hm.ne hc
 have nmk:m1≠ah:=hm.ne hah
 have nha:h1≠a1:=hh.ne_ ha (by decide)
 have nta:tb≠a1:=ht.ne_ ha (by decide)
 have nca:c1≠a1:=hc.ne_ ha (by decide)
 have nka:ah≠a1:=hah.ne_ ha (by decide)
 have nsh:st≠h1:=hs.ne_ hh (by decide)
 have nst:st≠tb:=hs.ne_ ht (by decide)
 have nch:c1≠h1:=hc.ne_ hh (by decide)
 have nct:c1≠tb:=hc.ne_ ht (by decide)
 have nkh:ah≠h1:=hah.ne_ hh (by decide)
 have nkt:ah≠tb:=hah.ne_ ht (by decide)
 have nkc:ah≠c1:=hah.ne_ hc (by decide)
 have nsc:st≠c1:=hs.ne_ hc (by decide)
 have NE:=Lib.hid (And.intro nsa (And.intro nma (And.intro nmh (And.intro nmt (And.intro nms (And.intro nmc (And.intro nmk (And.intro nha (And.intro nta (And.intro nca (And.intro nka (And.intro nsh (And.intro nst (And.intro nch (And.intro nct (And.intro nkh (And.intro nkt (And.intro nkc nsc))))))))))))))))))
 clear nsa nma nmh nmt nms nmc nmk nha nta nca nka nsh nst nch nct nkh nkt nkc nsc
 have HS:=Lib.hid hs
 have HMp:=Lib.hid hm
 have HH:=Lib.hid hh
 have HTb:=Lib.hid ht
 have HC:=Lib.hid hc
 have HK:=Lib.hid hah
 have x4:=hs.cell 4
 have xl:=hs.lt
 simp only[List.getElem?_toArray,List.getElem?_cons_zero,List.getElem?_cons_succ] at x4
 clear hs ha hm hh ht hc hah
 go_enter Tryz.func277,Tryz.ntmps277
 go_wp2_with fail
 refine HT0.out.mono ?_
 rintro e w1 ⟨rfl,g,gc,hgc,hA,hSl,hM⟩
 obtain⟨nsa,nma,nmh,nmt,nms,nmc,nmk,nha,nta,nca,nka,nsh,nst,nch,nct,nkh,nkt,nkc,nsc⟩:=NE.out
 have b1:Below w1.heap.size w1 (w1.alloc (.cells #[.int .i64 0,.int .i64 1] 381)):=balloc (Below.refl _ _) _
 have HS1:=Lib.hid ((HS.out.mod hM nsa).below b1 (HS.out.mod hM nsa).lt)
 have HM1:=Lib.hid ((HMp.out.mod hM nma).mod (Mod.ofBelow (F:=fun _=>False) b1) (fun f=>f))
 have HH1:=Lib.hid ((HH.out.mod hM nha).below b1 (HH.out.mod hM nha).lt)
 have HT1:=Lib.hid ((HTb.out.mod hM nta).below b1 (HTb.out.mod hM nta).lt)
 have HC1:=Lib.hid ((HC.out.mod hM nca).below b1 (HC.out.mod hM nca).lt)
 have HK1:=Lib.hid ((HK.out.mod hM nka).below b1 (HK.out.mod hM nka).lt)
 have HA1:=Lib.hid (hA.below b1 hA.lt)
 have HO1:=Lib.hid ((Mod.ofBelow (F:=fun _=>False) b1).ownsRow hSl (fun _ _ f=>f))
 have HD1:=Lib.hid ((Mod.mono hM (G:=fun k=>k=a1∨k=m1∨k=h1∨k=tb∨k=c1) (fun _ _ q=>.inl q)).trans (Mod.ofBelow (F:=fun _=>False) b1) (fun _ _ f=>f.elim))
 have HX1:=Lib.hid (Blk.new w1 381 #[.int .i64 0,.int .i64 1])
 have HZ:=Lib.hid hM.size
 clear nsa nma nmh nmt nms nmc nmk nha nta nca nka nsh nst nch nct nkh nkt nkc nsc hA hSl hM b1 x4 xl HT0 HS HMp HH HTb HC HK
 obtain⟨x,hx⟩:∃ x,w1.heap.size=x:=⟨_,rfl⟩
 rw[hx] at HX1
 go_upto_region 2 with fail
 obtain⟨W1,hW1⟩:∃ W1,w1.alloc (.cells #[.int .i64 0,.int .i64 1] 381)=W1:=⟨_,rfl⟩
 rw[hW1] at HS1 HM1 HH1 HT1 HC1 HK1 HA1 HO1 HD1 HX1 ⊢
 have LX:=Lib.hid (show w.heap.size<=x by have:=HZ.out;omega)
 clear hW1 hx HZ
 have hu:=@upd_int Tryz.prog W1.drew 319 3 381 m1 0 0 (.agg #[.int .i64 0,.int .i64 1]) (by kernel_rfl) (by kernel_rfl) HM1.out
 obtain⟨SS,hSS⟩:∃ SS:World->Prop,SS=fun W=>Blk W st 326 #[.int .i64 0,.int .i64 512,.int .i64 1,.slice none 0 0,.pointer (some ⟨a1,0,none⟩),.map (some m1),.pointer (some ⟨h1,0,none⟩),.slice none 0 0,.pointer (some ⟨a2,0,none⟩),.map (some m2),.pointer (some ⟨c1,0,none⟩),.bool mk,u]/\Blk W x 381 #[.int .i64 0,.int .i64 1]:=⟨_,rfl⟩
 have HSC:Hid (∀ W,SS W->W.cell? ⟨st,5,none⟩=some (.map (some m1))/\W.cell? ⟨x,0,none⟩=some (.int .i64 0)/\W.cell? ⟨x,1,none⟩=some (.int .i64 1)/\st<W.heap.size/\x<W.heap.size):=Lib.hid (fun W q=>by
  rw[hSS] at q
  obtain⟨r0,r1⟩:=q
  exact⟨(r0.cell 5).trans rfl,(r1.cell 0).trans rfl,(r1.cell 1).trans rfl,r0.lt,r1.lt⟩)
 have HSI:Hid (∀ W,Blk W st 326 #[.int .i64 0,.int .i64 512,.int .i64 1,.slice none 0 0,.pointer (some ⟨a1,0,none⟩),.map (some m1),.pointer (some ⟨h1,0,none⟩),.slice none 0 0,.pointer (some ⟨a2,0,none⟩),.map (some m2),.pointer (some ⟨c1,0,none⟩),.bool mk,u]/\Blk W x 381 #[.int .i64 0,.int .i64 1]->SS W):=Lib.hid (fun W q=>by rw[hSS];exact q)
 clear hSS
 have HSS:SS W1.drew:=HSI.out _ (⟨HS1.out.drew,HX1.out.drew⟩)
 refine wp_region_held_drew (by kernel_rfl) HSS (fun _=>?_)
 refine Held.tk 0 21 HSS ?_
 refine Held.tk 1 22 HSS ?_
 refine Held.tk 2 23 HSS ?_
 refine Held.tk 3 24 HSS ?_
 refine Held.tk 4 25 HSS ?_
 refine Held.tk 5 26 HSS ?_
 refine Held.tk 6 27 HSS ?_
 refine Held.on 7 (fun K hK=>?_)
 go_simp
 obtain⟨W2,hW2⟩:∃ W2,setMap W1.drew m1 #[{ key:=.int .i64 0,val:=.agg #[.int .i64 0,.int .i64 1],born:=0 }] 1=W2:=⟨_,rfl⟩
 have hd:Mod (fun k=>k=m1) W1 W2:=Mod.undrew (hW2 ▸ setMap.modw W1.drew m1 _ 1)
 rw[hW2]
 obtain⟨nsa,nma,nmh,nmt,nms,nmc,nmk,nha,nta,nca,nka,nsh,nst,nch,nct,nkh,nkt,nkc,nsc⟩:=NE.out
 have nxm:x≠m1:=(HM1.out.ne HX1.out).symm
 have HM2:=Lib.hid (show MapB W2 m1 #[{ key:=.int .i64 0,val:=.agg #[.int .i64 0,.int .i64 1],born:=0 }] 1 from hW2 ▸ setMap.at (MapB.drew HM1.out))
 have HS2:=Lib.hid (HS1.out.mod hd nms.symm)
 have HH2:=Lib.hid (HH1.out.mod hd nmh.symm)
 have HT2:=Lib.hid (HT1.out.mod hd nmt.symm)
 have HC2:=Lib.hid (HC1.out.mod hd nmc.symm)
 have HK2:=Lib.hid (HK1.out.mod hd nmk.symm)
 have HA2:=Lib.hid (HA1.out.mod hd nma.symm)
 have HX2:=Lib.hid (HX1.out.mod hd nxm)
 have HO2:=Lib.hid (hd.ownsRow HO1.out (fun k hk e=>by
  obtain⟨cur,hcur⟩:=own_typed HO1.out hk
  exact HM1.out.ne hcur e.symm))
 have HD2:=Lib.hid (HD1.out.trans hd (fun _ _ e=>.inr (.inl e)))
 clear nsa nma nmh nmt nms nmc nmk nha nta nca nka nsh nst nch nct nkh nkt nkc nsc hd nxm hW2 hu HSS
 have HSS:=HSI.out W2 ⟨HS2.out,HX2.out⟩
 refine hK.out _ _ HSS ?_
 clear hK K HS1 HM1 HH1 HT1 HC1 HK1 HA1 HX1 HO1 HD1
 try simp only[List.setIfInBounds_toArray,List.set_cons_succ,List.set_cons_zero]
 refine wpAnyH_done (by kernel_rfl) ?_ _
 clear HSS HSC HSI
 go_wp2_with fail
 obtain⟨SS,hSS⟩:∃ SS:World->Prop,SS=fun W=>Blk W st 326 #[.int .i64 0,.int .i64 512,.int .i64 1,.slice none 0 0,.pointer (some ⟨a1,0,none⟩),.map (some m1),.pointer (some ⟨h1,0,none⟩),.slice none 0 0,.pointer (some ⟨a2,0,none⟩),.map (some m2),.pointer (some ⟨c1,0,none⟩),.bool mk,u]/\Blk W x 381 #[.int .i64 0,.int .i64 1]:=⟨_,rfl⟩
 have HSC:Hid (∀ W,SS W->W.cell? ⟨st,6,none⟩=some (.pointer (some ⟨h1,0,none⟩))/\W.cell? ⟨x,0,none⟩=some (.int .i64 0)/\W.cell? ⟨x,1,none⟩=some (.int .i64 1)/\st<W.heap.size/\x<W.heap.size):=Lib.hid (fun W q=>by
  rw[hSS] at q
  obtain⟨r0,r1⟩:=q
  exact⟨(r0.cell 6).trans rfl,(r1.cell 0).trans rfl,(r1.cell 1).trans rfl,r0.lt,r1.lt⟩)
 have HSI:Hid (∀ W,Blk W st 326 #[.int .i64 0,.int .i64 512,.int .i64 1,.slice none 0 0,.pointer (some ⟨a1,0,none⟩),.map (some m1),.pointer (some ⟨h1,0,none⟩),.slice none 0 0,.pointer (some ⟨a2,0,none⟩),.map (some m2),.pointer (some ⟨c1,0,none⟩),.bool mk,u]/\Blk W x 381 #[.int .i64 0,.int .i64 1]->SS W):=Lib.hid (fun W q=>by rw[hSS];exact q)
 clear hSS
 have HSS:SS W2.drew:=HSI.out _ (⟨HS2.out.drew,HX2.out.drew⟩)
 refine wp_region_held_drew (by kernel_rfl) HSS (fun _=>?_)
 refine Held.tk 0 28 HSS ?_
 refine Held.tk 1 29 HSS ?_
 refine Held.tk 2 30 HSS ?_
 refine Held.tk 3 31 HSS ?_
 refine Held.tk 4 32 HSS ?_
 refine Held.tk 6 34 HSS ?_
 refine Held.tk 7 35 HSS ?_
 refine Held.on 5 (fun K hK=>?_)
 go_simp
 refine (pack0 _ va vc hvc).mono ?_
 rintro e w3 ⟨rfl,hb⟩
 have hD:Mod (fun _=>False) W2 w3:=Mod.undrew (Mod.ofBelow hb)
 have HS3:=Lib.hid (HS2.out.mod hD (fun f=>f))
 have HH3:=Lib.hid (HH2.out.mod hD (fun f=>f))
 have HT3:=Lib.hid (HT2.out.mod hD (fun f=>f))
 have HC3:=Lib.hid (HC2.out.mod hD (fun f=>f))
 have HK3:=Lib.hid (HK2.out.mod hD (fun f=>f))
 have HA3:=Lib.hid (HA2.out.mod hD (fun f=>f))
 have HX3:=Lib.hid (HX2.out.mod hD (fun f=>f))
 have HM3:=Lib.hid (HM2.out.mod hD (fun f=>f))
 have HO3:=Lib.hid (hD.ownsRow HO2.out (fun _ _ f=>f))
 have HD3:=Lib.hid (HD2.out.trans hD (fun _ _ f=>f.elim))
 clear hD hb HSS
 have HSS:=HSI.out w3 ⟨HS3.out,HX3.out⟩
 refine hK.out _ _ HSS ?_
 clear hK K HS2 HM2 HH2 HT2 HC2 HK2 HA2 HX2 HO2 HD2
 try simp only[List.setIfInBounds_toArray,List.set_cons_succ,List.set_cons_zero]
 refine Held.on 8 (fun K hK=>?_)
 go_simp
 refine (hput_any0 _ h1 tb 0 HH3.out HT3.out).mono ?_
 rintro e w4 ⟨rfl,hd⟩
 obtain⟨nsa,nma,nmh,nmt,nms,nmc,nmk,nha,nta,nca,nka,nsh,nst,nch,nct,nkh,nkt,nkc,nsc⟩:=NE.out
 have nxh:x≠h1:=HX3.out.ne_ HH3.out (by decide)
 have nxt:x≠tb:=HX3.out.ne_ HT3.out (by decide)
 have HS4:=Lib.hid (HS3.out.mod hd (by simp [nsh,nst]))
 have HC4:=Lib.hid (HC3.out.mod hd (by simp [nch,nct]))
 have HK4:=Lib.hid (HK3.out.mod hd (by simp [nkh,nkt]))
 have HA4:=Lib.hid (HA3.out.mod hd (by simp [nha.symm,nta.symm]))
 have HX4:=Lib.hid (HX3.out.mod hd (by simp [nxh,nxt]))
 have HM4:=Lib.hid (HM3.out.mod hd (by simp [nmh,nmt]))
 have HO4:=Lib.hid (hd.ownsRow HO3.out (fun k hk e=>by
  rcases e with e | e
  ·exact own_blk_ne HO3.out HH3.out (by decide) (by rw[hk,e])
  ·exact own_blk_ne HO3.out HT3.out (by decide) (by rw[hk,e])))
 have HD4:=Lib.hid (HD3.out.trans hd (fun _ _ e=>e.elim (fun e=>.inr (.inr (.inl e))) (fun e=>.inr (.inr (.inr (.inl e))))))
 clear nsa nma nmh nmt nms nmc nmk nha nta nca nka nsh nst nch nct nkh nkt nkc nsc hd nxh nxt HSS
 have HSS:=HSI.out w4 ⟨HS4.out,HX4.out⟩
 refine hK.out _ _ HSS ?_
 clear hK K HS3 HM3 HH3 HT3 HC3 HK3 HA3 HX3 HO3 HD3
 try simp only[List.setIfInBounds_toArray,List.set_cons_succ,List.set_cons_zero]
 refine wpAnyH_done (by kernel_rfl) ?_ _
 clear HSS HSC HSI
 have x2:=HS4.out.cell 2
 have xl:=HS4.out.lt
 have k0:=HK4.out.cell 0
 have kl:=HK4.out.lt
 simp only[List.getElem?_toArray,List.getElem?_cons_zero,List.getElem?_cons_succ] at x2 k0
 go_wp2_with fail
 refine wp_loop_rounds 2 ?_
 rw[rounds_succ]
 go_upto_region 13 with fail
 clear x2 xl k0 kl
 have hw0:IntKind.i64.wrap 0=0:=by kernel_rfl
 obtain⟨SS,hSS⟩:∃ SS:World->Prop,SS=fun W=>Blk W st 326 #[.int .i64 0,.int .i64 512,.int .i64 1,.slice none 0 0,.pointer (some ⟨a1,0,none⟩),.map (some m1),.pointer (some ⟨h1,0,none⟩),.slice none 0 0,.pointer (some ⟨a2,0,none⟩),.map (some m2),.pointer (some ⟨c1,0,none⟩),.bool mk,u]/\Blk W x 381 #[.int .i64 0,.int .i64 1]:=⟨_,rfl⟩
 have HSC:Hid (∀ W,SS W->W.cell? ⟨st,10,none⟩=some (.pointer (some ⟨c1,0,none⟩))/\W.cell? ⟨st,2,none⟩=some (.int .i64 1)/\W.cell? ⟨x,0,none⟩=some (.int .i64 0)/\W.cell? ⟨x,1,none⟩=some (.int .i64 1)/\st<W.heap.size/\x<W.heap.size):=Lib.hid (fun W q=>by
  rw[hSS] at q
  obtain⟨r0,r1⟩:=q
  exact⟨(r0.cell 10).trans rfl,(r0.cell 2).trans rfl,(r1.cell 0).trans rfl,(r1.cell 1).trans rfl,r0.lt,r1.lt⟩)
 have HSI:Hid (∀ W,Blk W st 326 #[.int .i64 0,.int .i64 512,.int .i64 1,.slice none 0 0,.pointer (some ⟨a1,0,none⟩),.map (some m1),.pointer (some ⟨h1,0,none⟩),.slice none 0 0,.pointer (some ⟨a2,0,none⟩),.map (some m2),.pointer (some ⟨c1,0,none⟩),.bool mk,u]/\Blk W x 381 #[.int .i64 0,.int .i64 1]->SS W):=Lib.hid (fun W q=>by rw[hSS];exact q)
 clear hSS
 have HSS:SS w4.drew:=HSI.out _ (⟨HS4.out.drew,HX4.out.drew⟩)
 refine wp_region_held_drew (by kernel_rfl) HSS (fun _=>?_)
 refine Held.tk 0 83 HSS ?_
 refine Held.tk 1 84 HSS ?_
 refine Held.tk 2 85 HSS ?_
 refine Held.tk 3 86 HSS ?_
 refine Held.tk 4 87 HSS ?_
 refine Held.tk 5 88 HSS ?_
 refine Held.tk 6 89 HSS ?_
 refine Held.tk 7 90 HSS ?_
 refine Held.tk 8 91 HSS ?_
 refine Held.tk 9 92 HSS ?_
 refine Held.tk 10 93 HSS ?_
 refine Held.tk 11 94 HSS ?_
 refine Held.on 12 (fun K hK=>?_)
 go_simp
 refine hK.out _ _ HSS ?_
 clear hK K
 try simp only[List.setIfInBounds_toArray,List.set_cons_succ,List.set_cons_zero]
 refine Held.tk 13 96 HSS ?_
 refine Held.on 14 (fun K hK=>?_)
 go_simp
 refine (capp0 _ c1 HC4.out.drew).mono ?_
 rintro e w5 ⟨hl,hc,ge,ec,rfl,hhc,hec,hC5,hL5,hE5,hd0⟩
 have hd:=Mod.undrew hd0
 obtain⟨nsa,nma,nmh,nmt,nms,nmc,nmk,nha,nta,nca,nka,nsh,nst,nch,nct,nkh,nkt,nkc,nsc⟩:=NE.out
 have nxc:x≠c1:=HX4.out.ne_ HC4.out (by decide)
 have hsz:=HD4.out.size
 have HS5:=Lib.hid (HS4.out.mod hd nsc)
 have HX5:=Lib.hid (HX4.out.mod hd nxc)
 have HR5:=Lib.hid (show HasRow w.heap.size w5 a1 m1 c1 (.slice va 0 vc) from ⟨g,gc,hl,hc,ge,ec,hgc,hhc,hec,HA4.out.mod hd nca.symm,hd.ownsRow HO4.out (fun k hk e=>own_blk_ne HO4.out HC4.out (by decide) (by rw[hk,e])),HM4.out.mod hd nmc,hC5,World.ownsRow.low hL5 hsz,World.ownsRow.low hE5 hsz⟩)
 have HD5:=Lib.hid (HD4.out.trans hd (fun _ _ e=>.inr (.inr (.inr (.inr e)))))
 clear nsa nma nmh nmt nms nmc nmk nha nta nca nka nsh nst nch nct nkh nkt nkc nsc hd hd0 nxc hsz hC5 hL5 hE5 HSS
 have HSS:=HSI.out w5 ⟨HS5.out,HX5.out⟩
 refine hK.out _ _ HSS ?_
 clear hK K HS4 HM4 HC4 HK4 HA4 HX4 HO4 HD4
 try simp only[List.setIfInBounds_toArray,List.set_cons_succ,List.set_cons_zero]
 refine wpAnyH_done (by kernel_rfl) ?_ _
 clear HSS HSC HSI
 have y0:=HX5.out.cell 0
 have yl:=HX5.out.lt
 simp only[List.getElem?_toArray,List.getElem?_cons_zero] at y0
 go_wp2_with fail
 rw[rounds_succ]
 go_wp2_with fail
 go_ret
 exact⟨rfl,HR5.out,HD5.out⟩
end Go.Proofs.YtgopfpjinohncaaGreatDoor
