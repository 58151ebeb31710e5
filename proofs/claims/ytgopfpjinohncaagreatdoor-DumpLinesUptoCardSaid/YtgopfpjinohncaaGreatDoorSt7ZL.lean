/- chain.Lists: Append of cell 0 to list 0 of lists with nothing in them; walked. -/
import Derived.Test.YtgopfpjinohncaaGreatDoorCyL
import Derived.Test.YtgopfpjinohncaaGreatDoorGaL
import Derived.LoopN
namespace Go.Proofs.YtgopfpjinohncaaGreatDoor
open Go.RowKit
set_option linter.unusedVariables false
theorem Tryz.infoEnds:(Tryz.prog.info? 369).map (fun i=>(i.zero,i.size,i.bytes))=some (some (.agg #[.int .i64 0,.int .i64 0,.int .i64 0]),3,24):=by kernel_rfl
theorem Tryz.infoLink:(Tryz.prog.info? 371).map (fun i=>(i.zero,i.size,i.bytes))=some (some (.agg #[.int .i64 0,.int .i64 0,.int .i64 0]),3,24):=by kernel_rfl
set_option maxHeartbeats 4000000 in
set_option maxRecDepth 100000 in
theorem clist0 (w:World) (c1:Nat) (h:Blk w c1 377 #[.int .i64 512,.slice none 0 0,.int .i64 513,.slice none 0 0]) :
 Calls Tryz.prog 281 #[.pointer (some ⟨c1,0,none⟩),.int .i64 0] w fun e w'=>∃ g cap,e=.returned (.tuple #[.pointer (some ⟨g,0,none⟩),.int .i64 0])/\1<=cap /\
  Blk w' c1 377 #[.int .i64 512,.slice none 0 0,.int .i64 513,.slice (some ⟨g,0,none⟩) 1 cap]/\w'.ownsRow w.heap.size 369 3 (.slice (some ⟨g,0,none⟩) 1 cap) 1 [.int .i64 (-1),.int .i64 (-1),.int .i64 0]/\Mod (fun k=>k=c1) w w':=by
 obtain⟨i0,hi0,hz0,hz1,hz2⟩:=info_parts Tryz.infoEnds
 have c2:=h.cell 2
 have c3:=h.cell 3
 have hlt:=h.lt
 simp only[List.getElem?_toArray,List.getElem?_cons_zero,List.getElem?_cons_succ] at c2 c3
 have HA:=Lib.hid h
 clear h
 go_enter Tryz.func281,Tryz.ntmps281
 go_wp2_with fail
 refine wp_loop_rounds 2 ?_
 rw[rounds_succ]
 go_wp2_with (at_builtin;refine wpList_append_lies _ rfl (.tmp 27) (.tmp 29) 375 rfl w.heap.size 369 i0 (.agg #[.int .i64 0,.int .i64 0,.int .i64 0]) 3 24 Tryz.underlying375 hi0 hz0 hz1 hz2 rfl (by decide) (.slice none 0 0) 0 [] rfl (World.ownsRow_nil _ _ _ _) ⟨w.heap.size,0,none⟩ 1 1 [.int .i64 (-1),.int .i64 (-1),.int .i64 0] rfl rfl ?c1 ?c2 (by decide) (by unfold maxLen;omega) (by simp) (by simp<;>omega) (w.heap.size+1) (by simp) ?_)
 case c1=>exact World.news_of_block (Blk.new w 369 #[.int .i64 (-1),.int .i64 (-1),.int .i64 0])
 case c2=>intro u hu;simp at hu;rcases hu with rfl | rfl<;>rfl
 intro g1 cap1 w1 hown1 hgrow1 hat1 hlt1
 have b1:=(HA.out.alloc (.cells #[.int .i64 (-1),.int .i64 (-1),.int .i64 0] 369)).grown hgrow1 (by simp [Value.ownBlock])
 have hm:Mod (fun k=>k=c1) w w1:=((Mod.refl _ w).alloc _).grown hgrow1 (by simp [Value.ownBlock])
 have e3:=b1.frozen 3
 have d3:=b1.cell 3
 have el:=b1.lt
 simp only[List.getElem?_toArray,List.getElem?_cons_zero,List.getElem?_cons_succ] at d3
 have hcap:1<=cap1:=by
  rcases hown1.2 with ⟨e,_⟩ | ⟨g',cap',cur,e,_,_,q,_⟩
  ·cases e
  ·simp only[Value.slice.injEq] at e
   omega
 have hgp:g1≠c1:=fun e=>own_blk_ne hown1 b1 (by decide) (by simp [Value.ownBlock,e])
 have HO:=Lib.hid hown1
 have HB:=Lib.hid b1
 have HM:=Lib.hid hm
 clear hown1 hgrow1 b1 hm hat1 c2 c3 hlt
 go_wp2_with fail
 rw[rounds_succ]
 go_wp2_with fail
 refine bodyPost_ret (v:=.tuple #[.pointer (some ⟨g1,0,none⟩),.int .i64 0]) (by simp [results,Tryz.results281,go_sem, *]) rfl ⟨g1,cap1,rfl,hcap,?_,?_,?_⟩
 ·simpa using HB.out.set_ 3 (.slice (some ⟨g1,0,none⟩) 1 cap1)
 ·have o:=((Mod.refl (fun k=>k=c1) w1).setCell (p:=⟨c1,3,none⟩) (fun _=>rfl) (.slice (some ⟨g1,0,none⟩) 1 cap1)).ownsRow HO.out (fun k hk e=>by simp [Value.ownBlock] at hk;omega)
  simpa using o
 ·exact HM.out.setCell (p:=⟨c1,3,none⟩) (fun _=>rfl) _
set_option maxHeartbeats 4000000 in
set_option maxRecDepth 100000 in
theorem cloose0 (w:World) (c1:Nat) (X:Value) (h:Blk w c1 377 #[.int .i64 512,.slice none 0 0,.int .i64 513,X]) :
 Calls Tryz.prog 328 #[.pointer (some ⟨c1,0,none⟩),.int .i64 0] w fun e w'=>∃ g cap,e=.returned (.tuple #[.pointer (some ⟨g,0,none⟩),.int .i64 0])/\1<=cap /\
  Blk w' c1 377 #[.int .i64 512,.slice (some ⟨g,0,none⟩) 1 cap,.int .i64 513,X]/\w'.ownsRow w.heap.size 371 3 (.slice (some ⟨g,0,none⟩) 1 cap) 1 [.int .i64 0,.int .i64 0,.int .i64 0]/\Mod (fun k=>k=c1) w w':=by
 obtain⟨i0,hi0,hz0,hz1,hz2⟩:=info_parts Tryz.infoLink
 have c0:=h.cell 0
 have c1':=h.cell 1
 have hlt:=h.lt
 simp only[List.getElem?_toArray,List.getElem?_cons_zero,List.getElem?_cons_succ] at c0 c1'
 have HA:=Lib.hid h
 clear h
 go_enter Tryz.func328,Tryz.ntmps328
 go_wp2_with fail
 refine wp_loop_rounds 2 ?_
 rw[rounds_succ]
 go_wp2_with (at_builtin;refine wpList_append_lies _ rfl (.tmp 27) (.tmp 29) 372 rfl w.heap.size 371 i0 (.agg #[.int .i64 0,.int .i64 0,.int .i64 0]) 3 24 Tryz.underlying372 hi0 hz0 hz1 hz2 rfl (by decide) (.slice none 0 0) 0 [] rfl (World.ownsRow_nil _ _ _ _) ⟨w.heap.size,0,none⟩ 1 1 [.int .i64 0,.int .i64 0,.int .i64 0] rfl rfl ?c1 ?c2 (by decide) (by unfold maxLen;omega) (by simp) (by simp<;>omega) (w.heap.size+1) (by simp) ?_)
 case c1=>exact World.news_of_block (Blk.new w 371 #[.int .i64 0,.int .i64 0,.int .i64 0])
 case c2=>intro u hu;simp at hu;rcases hu with rfl;rfl
 intro g1 cap1 w1 hown1 hgrow1 hat1 hlt1
 have b1:=(HA.out.alloc (.cells #[.int .i64 0,.int .i64 0,.int .i64 0] 371)).grown hgrow1 (by simp [Value.ownBlock])
 have hm:Mod (fun k=>k=c1) w w1:=((Mod.refl _ w).alloc _).grown hgrow1 (by simp [Value.ownBlock])
 have e3:=b1.frozen 1
 have d3:=b1.cell 1
 have el:=b1.lt
 simp only[List.getElem?_toArray,List.getElem?_cons_zero,List.getElem?_cons_succ] at d3
 have hcap:1<=cap1:=by
  rcases hown1.2 with ⟨e,_⟩ | ⟨g',cap',cur,e,_,_,q,_⟩
  ·cases e
  ·simp only[Value.slice.injEq] at e
   omega
 have hgp:g1≠c1:=fun e=>own_blk_ne hown1 b1 (by decide) (by simp [Value.ownBlock,e])
 have hpg:c1≠g1:=fun e=>hgp e.symm
 have l0:=hown1.cellAt 0 (by simp)
 have gl:=World.block_lt_of_cell? _ _ l0
 simp only[List.getElem?_cons_zero] at l0
 have HO:=Lib.hid hown1
 have HB:=Lib.hid b1
 have HM:=Lib.hid hm
 clear hown1 hgrow1 b1 hm hat1 c0 c1' hlt
 go_wp2_with fail
 rw[rounds_succ]
 go_wp2_with fail
 refine bodyPost_ret (v:=.tuple #[.pointer (some ⟨g1,0,none⟩),.int .i64 0]) (by simp [results,Tryz.results328,go_sem, *]) rfl ⟨g1,cap1,rfl,hcap,?_,?_,?_⟩
 ·simpa using HB.out.set_ 1 (.slice (some ⟨g1,0,none⟩) 1 cap1)
 ·have o:=((Mod.refl (fun k=>k=c1) w1).setCell (p:=⟨c1,1,none⟩) (fun _=>rfl) (.slice (some ⟨g1,0,none⟩) 1 cap1)).ownsRow HO.out (fun k hk e=>by simp [Value.ownBlock] at hk;omega)
  simpa using o
 ·exact HM.out.setCell (p:=⟨c1,1,none⟩) (fun _=>rfl) _
set_option maxHeartbeats 4000000 in
set_option maxRecDepth 100000 in
theorem cins0 (w:World) (c1 h1 hc g gc B:Nat) (h:Blk w c1 377 #[.int .i64 512,.slice (some ⟨h1,0,none⟩) 1 hc,.int .i64 513,.slice (some ⟨g,0,none⟩) 1 gc]) (hc1:1<=hc) (gc1:1<=gc)
 (hl:w.ownsRow B 371 3 (.slice (some ⟨h1,0,none⟩) 1 hc) 1 [.int .i64 0,.int .i64 0,.int .i64 0]) (he:w.ownsRow B 369 3 (.slice (some ⟨g,0,none⟩) 1 gc) 1 [.int .i64 (-1),.int .i64 (-1),.int .i64 0]) :
 Calls Tryz.prog 329 #[.pointer (some ⟨c1,0,none⟩),.int .i64 0,.int .i64 0,.int .i64 (-1),.int .i64 (-1)] w fun e w'=>e=.returned (.tuple #[]) /\
  w'.ownsRow B 371 3 (.slice (some ⟨h1,0,none⟩) 1 hc) 1 [.int .i64 1,.int .i64 (-1),.int .i64 (-1)]/\w'.ownsRow B 369 3 (.slice (some ⟨g,0,none⟩) 1 gc) 1 [.int .i64 0,.int .i64 0,.int .i64 1]/\Mod (fun k=>k=h1∨k=g) w w':=by
 have x1:=h.cell 1
 have x3:=h.cell 3
 have xl:=h.lt
 simp only[List.getElem?_toArray,List.getElem?_cons_zero,List.getElem?_cons_succ] at x1 x3
 have l0:=hl.cellAt 0 (by simp)
 have l1:=hl.cellAt 1 (by simp)
 have l2:=hl.cellAt 2 (by simp)
 have m0:=hl.frozenAt 0
 have m1:=hl.frozenAt 1
 have m2:=hl.frozenAt 2
 have n0:=he.cellAt 0 (by simp)
 have n1:=he.cellAt 1 (by simp)
 have n2:=he.cellAt 2 (by simp)
 have p0:=he.frozenAt 0
 have p1:=he.frozenAt 1
 have p2:=he.frozenAt 2
 have gl:=World.block_lt_of_cell? _ _ n0
 have hll:=World.block_lt_of_cell? _ _ l0
 simp only[List.getElem?_cons_zero,List.getElem?_cons_succ] at l0 l1 l2 n0 n1 n2 gl hll
 have ngh:g≠h1:=fun e=>own_own_ne hl he (by decide) (k:=h1) (by simp [Value.ownBlock]) (by simp [Value.ownBlock,e])
 have nhg:h1≠g:=fun e=>ngh e.symm
 have ncg:c1≠g:=fun e=>own_blk_ne he h (by decide) (by simp [Value.ownBlock,e])
 have nch:c1≠h1:=fun e=>own_blk_ne hl h (by decide) (by simp [Value.ownBlock,e])
 have HL:=Lib.hid hl
 have HE:=Lib.hid he
 clear h hl he
 go_enter Tryz.func329,Tryz.ntmps329
 go_wp2_with fail
 have o1:=own_set3 (k:=0) (rows:=[[.int .i64 0,.int .i64 0,.int .i64 0]]) (a:=.int .i64 1) (b:=.int .i64 (-1)) (c:=.int .i64 (-1)) HL.out (by simp) rfl (by omega) rfl rfl rfl
 have e1:=o1.2.ownsRow HE.out (fun k hk e=>by simp [Value.ownBlock] at hk;omega)
 have e2:=((e1.stored 2 (.int .i64 1)).1.stored 0 (.int .i64 0)).1.stored 1 (.int .i64 0)
 have m2:=(((Mod.mono o1.2 (G:=fun k=>k=h1∨k=g) (fun _ _ q=>.inl q)).setCell (p:=⟨g,2,none⟩) (fun _=>.inr rfl) (.int .i64 1)).setCell (p:=⟨g,0,none⟩) (fun _=>.inr rfl) (.int .i64 0)).setCell (p:=⟨g,1,none⟩) (fun _=>.inr rfl) (.int .i64 0)
 go_end0
 refine⟨rfl,?_,e2.1,m2⟩
 refine Mod.ownsRow ((((Mod.refl (fun k=>k=g) _).setCell (p:=⟨g,2,none⟩) (fun _=>rfl) _).setCell (p:=⟨g,0,none⟩) (fun _=>rfl) _).setCell (p:=⟨g,1,none⟩) (fun _=>rfl) _) o1.1 (fun k hk e=>?_)
 simp [Value.ownBlock] at hk
 omega
set_option maxHeartbeats 4000000 in
set_option maxRecDepth 100000 in
theorem capp0 (w:World) (c1:Nat) (h:Blk w c1 377 #[.int .i64 512,.slice none 0 0,.int .i64 513,.slice none 0 0]) :
 Calls Tryz.prog 308 #[.pointer (some ⟨c1,0,none⟩),.int .i64 0,.int .i64 0] w fun e w'=>∃ h1 hc g gc,e=.returned (.int .i64 0)/\1<=hc/\1<=gc /\
  Blk w' c1 377 #[.int .i64 512,.slice (some ⟨h1,0,none⟩) 1 hc,.int .i64 513,.slice (some ⟨g,0,none⟩) 1 gc] /\
  w'.ownsRow w.heap.size 371 3 (.slice (some ⟨h1,0,none⟩) 1 hc) 1 [.int .i64 1,.int .i64 (-1),.int .i64 (-1)]/\w'.ownsRow w.heap.size 369 3 (.slice (some ⟨g,0,none⟩) 1 gc) 1 [.int .i64 0,.int .i64 0,.int .i64 1]/\Mod (fun k=>k=c1) w w':=by
 have HL:=Lib.hid (clist0 w c1 h)
 clear h
 go_enter Tryz.func308,Tryz.ntmps308
 go_wp2_with fail
 refine HL.out.mono ?_
 rintro e w1 ⟨g,gc,rfl,hgc,hb1,ho1,hm1⟩
 have HB:=Lib.hid hb1
 have HO:=Lib.hid ho1
 have HM:=Lib.hid hm1
 have HLo:=Lib.hid (cloose0 w1 c1 _ hb1)
 clear hb1 ho1 hm1 HL
 go_wp2_with fail
 refine HLo.out.mono ?_
 rintro e w2 ⟨h1,hc,rfl,hhc,hb2,ho2,hm2⟩
 have hgo:=hm2.ownsRow HO.out (fun k hk e=>own_blk_ne HO.out HB.out (by decide) (by rw[hk,e]))
 have n1:=hgo.cellAt 1 (by simp)
 have gl:=World.block_lt_of_cell? _ _ n1
 simp only[List.getElem?_cons_zero,List.getElem?_cons_succ] at n1 gl
 have ncg:c1≠g:=fun e=>own_blk_ne hgo hb2 (by decide) (by simp [Value.ownBlock,e])
 have nch:c1≠h1:=fun e=>own_blk_ne ho2 hb2 (by decide) (by simp [Value.ownBlock,e])
 have lg:=(hgo.lt g rfl).1
 have lh:=(ho2.lt h1 rfl).1
 have sz:=HM.out.size
 have HI:=Lib.hid (cins0 w2 c1 h1 hc g gc w.heap.size hb2 hhc hgc (World.ownsRow.low ho2 sz) hgo)
 have HB2:=Lib.hid hb2
 have HM2:=Lib.hid (HM.out.trans hm2 (fun _ _ q=>q))
 clear hb2 ho2 hm2 HB HO HM HLo hgo
 go_wp2_with fail
 refine HI.out.mono ?_
 rintro e w3 ⟨rfl,hl3,he3,hm3⟩
 have HL3:=Lib.hid hl3
 have HE3:=Lib.hid he3
 have HM3:=Lib.hid hm3
 clear hl3 he3 hm3 n1 gl
 go_wp2_with fail
 go_ret
 exact⟨h1,hc,g,gc,rfl,hhc,hgc,HB2.out.mod HM3.out (by simp [ncg,nch]),HL3.out,HE3.out,HM2.out.trans HM3.out (fun k hk q=>by rcases q with q | q<;>omega)⟩
end Go.Proofs.YtgopfpjinohncaaGreatDoor
