/- arena.Arena[api.Row]: -/
import Derived.Test.YtgopfpjinohncaaGreatDoorCyF
set_option maxHeartbeats 4000000
set_option maxRecDepth 100000
set_option linter.unusedVariables false
namespace Go.Proofs.YtgopfpjinohncaaGreatDoor
open Go.Proofs.Tryz
open Go.RowKit
theorem Tryz.infoSlotR:(prog.info? 418).map (fun i=>(i.zero,i.size,i.bytes))=some (some (.agg #[.int .i64 0,.bool false,.slice none 0 0]),3,40):=by kernel_rfl
theorem EP (w:World) (a1:Nat) (va:Option Addr) (vn vc:Nat) (h:af w a1 394 #[.int .i64 512,.int .i64 1073741824,.slice none 0 0,.slice none 0 0,.int .i64 0]) :
 Calls prog 304 #[.pointer (some ⟨a1,0,none⟩),.slice va vn vc] w fun e w'=>e=.returned (.tuple #[.agg #[.int .i64 0,.int .i64 1],.int .i64 0]) /\
  ∃ g cap,1<=cap/\af w' a1 394 #[.int .i64 512,.int .i64 1073741824,.slice (some ⟨g,0,none⟩) 1 cap,.slice none 0 0,.int .i64 1]/\w'.ownsRow w.heap.size 418 3 (.slice (some ⟨g,0,none⟩) 1 cap) 1 [.int .i64 1,.bool true,.slice va vn vc]/\aq (fun k=>k=a1) w w':=by
 obtain⟨i0,hi0,hz0,hz1,hz2⟩:=info_parts Tryz.infoSlotR
 have c0:=h.cell 0
 have c2:=h.cell 2
 have c3:=h.cell 3
 have c4:=h.cell 4
 have hlt:=h.lt
 simp only[FF] at c0 c2 c3 c4
 have HA:=Fx h
 clear h
 go_enter func304,ntmps304
 go_wp2_with (at_builtin;refine wpList_append_lies _ rfl (.tmp 58) (.tmp 60) 392 rfl w.heap.size 418 i0 (.agg #[.int .i64 0,.bool false,.slice none 0 0]) 3 40 underlying392 hi0 hz0 hz1 hz2 rfl (by decide) (.slice none 0 0) 0 [] rfl (World.ownsRow_nil _ _ _ _) ⟨w.heap.size+1,0,none⟩ 1 1 [.int .i64 0,.bool false,.slice none 0 0] rfl rfl ?c1 ?c2 (by decide) (by unfold maxLen;omega) (by simp) (by simp<;>omega) (w.heap.size+1+1) (by simp) ?_)
 case c1 =>
  have hnb:=World.news_of_block (af.new (w.alloc (.cells #[.int .i64 0,.int .i64 0] 381)) 418 #[.int .i64 0,.bool false,.slice none 0 0])
  rw[World.size_alloc] at hnb
  exact hnb
 case c2=>intro u hu;simp at hu;rcases hu with rfl | rfl | rfl<;>rfl
 intro g1 cap1 w1 hown1 hgrow1 hat1 hlt1
 have b1:=((HA.out.alloc (.cells #[.int .i64 0,.int .i64 0] 381)).alloc (.cells #[.int .i64 0,.bool false,.slice none 0 0] 418)).grown hgrow1 (by simp [Value.ownBlock])
 have hres:af w1 w.heap.size 381 #[.int .i64 0,.int .i64 0]:=((af.new w _ _).alloc _).grown hgrow1 (by simp [Value.ownBlock])
 have hm:aq (fun k=>k=a1) w w1:=(((aq.refl _ w).alloc _).alloc _).grown hgrow1 (by simp [Value.ownBlock])
 have e2:=b1.frozen 2
 have e4:=b1.frozen 4
 have d2:=b1.cell 2
 have d4:=b1.cell 4
 simp only[FF] at d2 d4
 have f0:=hown1.frozenAt 0
 have f1:=hown1.frozenAt 1
 have f2:=hown1.frozenAt 2
 have g0:=hown1.cellAt 0 (by simp)
 have g1':=hown1.cellAt 1 (by simp)
 have g2:=hown1.cellAt 2 (by simp)
 simp only[List.getElem?_cons_zero,List.getElem?_cons_succ] at g0 g1' g2
 have hgp:g1≠a1:=fun e=>aE hown1 b1 (by decide) (by simp [Value.ownBlock,e])
 have hpg:a1≠g1:=fun e=>hgp e.symm
 have hgr:g1≠w.heap.size:=fun e=>aE hown1 hres (by decide) (by simp [Value.ownBlock,e])
 have hrg:w.heap.size≠g1:=fun e=>hgr e.symm
 have hrp:w.heap.size≠a1:=by omega
 have hpr:a1≠w.heap.size:=by omega
 have r0:=hres.cell 0
 have r1:=hres.cell 1
 have s0:=hres.frozen 0
 have s1:=hres.frozen 1
 simp only[FF] at r0 r1
 have hcap:1<=cap1:=by
  rcases hown1.2 with ⟨e,_⟩ | ⟨g',cap',cur,e,_,_,q,_⟩
  ·cases e
  ·simp only[Value.slice.injEq] at e
   omega
 have hgl:w.heap.size<=g1:=(hown1.lt g1 rfl).1
 have HO:=Fx hown1
 have HB:=Fx b1
 have HM:=Fx hm
 clear hown1 hgrow1 b1 hm hres hat1
 go_wp2_with fail
 refine bodyPost_ret (v:=.tuple #[.agg #[.int .i64 0,.int .i64 1],.int .i64 0]) (by simp [results,results304,go_sem, *]) rfl ⟨rfl,g1,cap1,hcap,?_,?_,?_⟩
 ·have:=((((((HB.out.set_ 2 (.slice (some ⟨g1,0,none⟩) 1 cap1)).far (p:=⟨g1,0,none⟩) hpg (.int .i64 1)).far (p:=⟨g1,1,none⟩) hpg (.bool true)).far (p:=⟨g1,2,none⟩) hpg (.slice va vn vc)).set_ 4 (.int .i64 1)).far (p:=⟨w.heap.size,0,none⟩) hpr (.int .i64 0)).far (p:=⟨w.heap.size,1,none⟩) hpr (.int .i64 1)
  simpa using this
 ·have o1:=((aq.refl (fun k=>k=a1) w1).setCell (p:=⟨a1,2,none⟩) (fun _=>rfl) (.slice (some ⟨g1,0,none⟩) 1 cap1)).ownsRow HO.out (fun k hk e=>by simp [Value.ownBlock] at hk;omega)
  have o2:=(tC (k:=0) (rows:=[[.int .i64 0,.bool false,.slice none 0 0]]) (a:=.int .i64 1) (b:=.bool true) (c:=.slice va vn vc) o1 (by simp) rfl (by omega) rfl rfl rfl).1
  refine aq.ownsRow ((((aq.refl (fun k=>k=a1∨k=w.heap.size) _).setCell (p:=⟨a1,4,none⟩) (fun _=>.inl rfl) _).setCell (p:=⟨w.heap.size,0,none⟩) (fun _=>.inr rfl) _).setCell (p:=⟨w.heap.size,1,none⟩) (fun _=>.inr rfl) _) o2 (fun k hk e=>?_)
  simp [Value.ownBlock] at hk
  omega
 ·exact ((((((HM.out.setCell (p:=⟨a1,2,none⟩) (fun _=>rfl) _).setCell (p:=⟨g1,0,none⟩) (fun q=>absurd q (Nat.not_lt.2 hgl)) _).setCell (p:=⟨g1,1,none⟩) (fun q=>absurd q (Nat.not_lt.2 hgl)) _).setCell (p:=⟨g1,2,none⟩) (fun q=>absurd q (Nat.not_lt.2 hgl)) _).setCell (p:=⟨a1,4,none⟩) (fun _=>rfl) _).setCell (p:=⟨w.heap.size,0,none⟩) (fun q=>absurd q (Nat.lt_irrefl _)) _).setCell (p:=⟨w.heap.size,1,none⟩) (fun q=>absurd q (Nat.lt_irrefl _)) _
theorem Em (w:World) (a1 g cap:Nat) (hc:1<=cap) (x5 x6 x7:Value) (h:af w a1 394 #[.int .i64 512,.int .i64 1073741824,.slice (some ⟨g,0,none⟩) 1 cap,x5,x6]) (B:Nat)
 (ho:w.ownsRow B 418 3 (.slice (some ⟨g,0,none⟩) 1 cap) 1 [.int .i64 1,.bool true,x7]) :
 Calls prog 310 #[.pointer (some ⟨a1,0,none⟩),.agg #[.int .i64 0,.int .i64 1]] w fun e w'=>e=.returned (.pointer (some ⟨g,0,none⟩))/\Below w.heap.size w w':=by
 have c0:=ho.cellAt 0 (by simp)
 have c1:=ho.cellAt 1 (by simp)
 have hgl:=World.block_lt_of_cell? w _ c0
 simp only[List.getElem?_cons_zero,List.getElem?_cons_succ] at c0 c1 hgl
 have hx:=h.cell 2
 simp only[FF] at hx
 have hlt:=h.lt
 clear h ho
 go_enter func310,ntmps310
 go_wp2
 go_quiet (fail)
 go_wp2
 go_quiet (fail)
 go_wp2
 go_quiet (fail)
 go_wp2
 go_ret
 exact⟨rfl,dC (dC (dC (ae Fy _) _) _) _⟩
theorem Ff (w:World) (a1 g cap:Nat) (hc:1<=cap) (x5 x6 x7:Value) (h:af w a1 394 #[.int .i64 512,.int .i64 1073741824,.slice (some ⟨g,0,none⟩) 1 cap,x5,x6]) (B:Nat)
 (ho:w.ownsRow B 418 3 (.slice (some ⟨g,0,none⟩) 1 cap) 1 [.int .i64 1,.bool true,x7]) :
 Calls prog 282 #[.pointer (some ⟨a1,0,none⟩),.agg #[.int .i64 0,.int .i64 1]] w fun e w'=>e=.returned (.tuple #[x7,.int .i64 0])/\Below w.heap.size w w':=by
 have b0:Below w.heap.size w (w.alloc (.cells #[.int .i64 0,.int .i64 1] 381)):=ae Fy _
 have o0:=(aq.ofBelow (F:=fun _=>False) b0).ownsRow ho (fun _ _ f=>f)
 have HF:=Fx (Em _ a1 g cap hc x5 x6 x7 (h.below b0 h.lt) B o0)
 have HO:=Fx o0
 have HB:=Fx b0
 clear h ho o0 b0
 go_enter func282,ntmps282
 go_wp2_with fail
 refine HF.out.mono ?_
 rintro e w1 ⟨rfl,hb⟩
 have o1:=(aq.ofBelow (F:=fun _=>False) hb).ownsRow HO.out (fun _ _ f=>f)
 have c2:=o1.cellAt 2 (by simp)
 have hgl:=World.block_lt_of_cell? _ _ c2
 simp only[List.getElem?_cons_zero,List.getElem?_cons_succ] at c2 hgl
 have HB1:=Fx (dZ HB.out hb)
 clear o1 hb
 go_wp2_with fail
 go_ret2
 exact⟨rfl,HB1.out⟩
theorem Tryz.infoEnds:(prog.info? 369).map (fun i=>(i.zero,i.size,i.bytes))=some (some (.agg #[.int .i64 0,.int .i64 0,.int .i64 0]),3,24):=by kernel_rfl
theorem Tryz.infoLink:(prog.info? 371).map (fun i=>(i.zero,i.size,i.bytes))=some (some (.agg #[.int .i64 0,.int .i64 0,.int .i64 0]),3,24):=by kernel_rfl
theorem D2 (w:World) (c1:Nat) (h:af w c1 377 #[.int .i64 512,.slice none 0 0,.int .i64 513,.slice none 0 0]) :
 Calls prog 281 #[.pointer (some ⟨c1,0,none⟩),.int .i64 0] w fun e w'=>∃ g cap,e=.returned (.tuple #[.pointer (some ⟨g,0,none⟩),.int .i64 0])/\1<=cap /\
  af w' c1 377 #[.int .i64 512,.slice none 0 0,.int .i64 513,.slice (some ⟨g,0,none⟩) 1 cap]/\w'.ownsRow w.heap.size 369 3 (.slice (some ⟨g,0,none⟩) 1 cap) 1 [.int .i64 (-1),.int .i64 (-1),.int .i64 0]/\aq (fun k=>k=c1) w w':=by
 obtain⟨i0,hi0,hz0,hz1,hz2⟩:=info_parts Tryz.infoEnds
 have c2:=h.cell 2
 have c3:=h.cell 3
 have hlt:=h.lt
 simp only[FF] at c2 c3
 have HA:=Fx h
 clear h
 go_enter func281,ntmps281
 go_wp2_with fail
 refine wp_loop_rounds 2 ?_
 rw[rounds_succ]
 go_wp2_with (at_builtin;refine wpList_append_lies _ rfl (.tmp 27) (.tmp 29) 375 rfl w.heap.size 369 i0 (.agg #[.int .i64 0,.int .i64 0,.int .i64 0]) 3 24 underlying375 hi0 hz0 hz1 hz2 rfl (by decide) (.slice none 0 0) 0 [] rfl (World.ownsRow_nil _ _ _ _) ⟨w.heap.size,0,none⟩ 1 1 [.int .i64 (-1),.int .i64 (-1),.int .i64 0] rfl rfl ?c1 ?c2 (by decide) (by unfold maxLen;omega) (by simp) (by simp<;>omega) (w.heap.size+1) (by simp) ?_)
 case c1=>exact World.news_of_block (af.new w 369 #[.int .i64 (-1),.int .i64 (-1),.int .i64 0])
 case c2=>intro u hu;simp at hu;rcases hu with rfl | rfl<;>rfl
 intro g1 cap1 w1 hown1 hgrow1 hat1 hlt1
 have b1:=(HA.out.alloc (.cells #[.int .i64 (-1),.int .i64 (-1),.int .i64 0] 369)).grown hgrow1 (by simp [Value.ownBlock])
 have hm:aq (fun k=>k=c1) w w1:=((aq.refl _ w).alloc _).grown hgrow1 (by simp [Value.ownBlock])
 have e3:=b1.frozen 3
 have d3:=b1.cell 3
 have el:=b1.lt
 simp only[FF] at d3
 have hcap:1<=cap1:=by
  rcases hown1.2 with ⟨e,_⟩ | ⟨g',cap',cur,e,_,_,q,_⟩
  ·cases e
  ·simp only[Value.slice.injEq] at e
   omega
 have hgp:g1≠c1:=fun e=>aE hown1 b1 (by decide) (by simp [Value.ownBlock,e])
 have HO:=Fx hown1
 have HB:=Fx b1
 have HM:=Fx hm
 clear hown1 hgrow1 b1 hm hat1 c2 c3 hlt
 go_wp2_with fail
 rw[rounds_succ]
 go_wp2_with fail
 refine bodyPost_ret (v:=.tuple #[.pointer (some ⟨g1,0,none⟩),.int .i64 0]) (by simp [results,results281,go_sem, *]) rfl ⟨g1,cap1,rfl,hcap,?_,?_,?_⟩
 ·simpa using HB.out.set_ 3 (.slice (some ⟨g1,0,none⟩) 1 cap1)
 ·have o:=((aq.refl (fun k=>k=c1) w1).setCell (p:=⟨c1,3,none⟩) (fun _=>rfl) (.slice (some ⟨g1,0,none⟩) 1 cap1)).ownsRow HO.out (fun k hk e=>by simp [Value.ownBlock] at hk;omega)
  simpa using o
 ·exact HM.out.setCell (p:=⟨c1,3,none⟩) (fun _=>rfl) _
theorem Co (w:World) (c1:Nat) (X:Value) (h:af w c1 377 #[.int .i64 512,.slice none 0 0,.int .i64 513,X]) :
 Calls prog 328 #[.pointer (some ⟨c1,0,none⟩),.int .i64 0] w fun e w'=>∃ g cap,e=.returned (.tuple #[.pointer (some ⟨g,0,none⟩),.int .i64 0])/\1<=cap /\
  af w' c1 377 #[.int .i64 512,.slice (some ⟨g,0,none⟩) 1 cap,.int .i64 513,X]/\w'.ownsRow w.heap.size 371 3 (.slice (some ⟨g,0,none⟩) 1 cap) 1 [.int .i64 0,.int .i64 0,.int .i64 0]/\aq (fun k=>k=c1) w w':=by
 obtain⟨i0,hi0,hz0,hz1,hz2⟩:=info_parts Tryz.infoLink
 have c0:=h.cell 0
 have c1':=h.cell 1
 have hlt:=h.lt
 simp only[FF] at c0 c1'
 have HA:=Fx h
 clear h
 go_enter func328,ntmps328
 go_wp2_with fail
 refine wp_loop_rounds 2 ?_
 rw[rounds_succ]
 go_wp2_with (at_builtin;refine wpList_append_lies _ rfl (.tmp 27) (.tmp 29) 372 rfl w.heap.size 371 i0 (.agg #[.int .i64 0,.int .i64 0,.int .i64 0]) 3 24 underlying372 hi0 hz0 hz1 hz2 rfl (by decide) (.slice none 0 0) 0 [] rfl (World.ownsRow_nil _ _ _ _) ⟨w.heap.size,0,none⟩ 1 1 [.int .i64 0,.int .i64 0,.int .i64 0] rfl rfl ?c1 ?c2 (by decide) (by unfold maxLen;omega) (by simp) (by simp<;>omega) (w.heap.size+1) (by simp) ?_)
 case c1=>exact World.news_of_block (af.new w 371 #[.int .i64 0,.int .i64 0,.int .i64 0])
 case c2=>intro u hu;simp at hu;rcases hu with rfl;rfl
 intro g1 cap1 w1 hown1 hgrow1 hat1 hlt1
 have b1:=(HA.out.alloc (.cells #[.int .i64 0,.int .i64 0,.int .i64 0] 371)).grown hgrow1 (by simp [Value.ownBlock])
 have hm:aq (fun k=>k=c1) w w1:=((aq.refl _ w).alloc _).grown hgrow1 (by simp [Value.ownBlock])
 have e3:=b1.frozen 1
 have d3:=b1.cell 1
 have el:=b1.lt
 simp only[FF] at d3
 have hcap:1<=cap1:=by
  rcases hown1.2 with ⟨e,_⟩ | ⟨g',cap',cur,e,_,_,q,_⟩
  ·cases e
  ·simp only[Value.slice.injEq] at e
   omega
 have hgp:g1≠c1:=fun e=>aE hown1 b1 (by decide) (by simp [Value.ownBlock,e])
 have hpg:c1≠g1:=fun e=>hgp e.symm
 have l0:=hown1.cellAt 0 (by simp)
 have gl:=World.block_lt_of_cell? _ _ l0
 simp only[List.getElem?_cons_zero] at l0
 have HO:=Fx hown1
 have HB:=Fx b1
 have HM:=Fx hm
 clear hown1 hgrow1 b1 hm hat1 c0 c1' hlt
 go_wp2_with fail
 rw[rounds_succ]
 go_wp2_with fail
 refine bodyPost_ret (v:=.tuple #[.pointer (some ⟨g1,0,none⟩),.int .i64 0]) (by simp [results,results328,go_sem, *]) rfl ⟨g1,cap1,rfl,hcap,?_,?_,?_⟩
 ·simpa using HB.out.set_ 1 (.slice (some ⟨g1,0,none⟩) 1 cap1)
 ·have o:=((aq.refl (fun k=>k=c1) w1).setCell (p:=⟨c1,1,none⟩) (fun _=>rfl) (.slice (some ⟨g1,0,none⟩) 1 cap1)).ownsRow HO.out (fun k hk e=>by simp [Value.ownBlock] at hk;omega)
  simpa using o
 ·exact HM.out.setCell (p:=⟨c1,1,none⟩) (fun _=>rfl) _
theorem EI (w:World) (c1 h1 hc g gc B:Nat) (h:af w c1 377 #[.int .i64 512,.slice (some ⟨h1,0,none⟩) 1 hc,.int .i64 513,.slice (some ⟨g,0,none⟩) 1 gc]) (hc1:1<=hc) (gc1:1<=gc)
 (hl:w.ownsRow B 371 3 (.slice (some ⟨h1,0,none⟩) 1 hc) 1 [.int .i64 0,.int .i64 0,.int .i64 0]) (he:w.ownsRow B 369 3 (.slice (some ⟨g,0,none⟩) 1 gc) 1 [.int .i64 (-1),.int .i64 (-1),.int .i64 0]) :
 Calls prog 329 #[.pointer (some ⟨c1,0,none⟩),.int .i64 0,.int .i64 0,.int .i64 (-1),.int .i64 (-1)] w fun e w'=>e=.returned (.tuple #[]) /\
  w'.ownsRow B 371 3 (.slice (some ⟨h1,0,none⟩) 1 hc) 1 [.int .i64 1,.int .i64 (-1),.int .i64 (-1)]/\w'.ownsRow B 369 3 (.slice (some ⟨g,0,none⟩) 1 gc) 1 [.int .i64 0,.int .i64 0,.int .i64 1]/\aq (fun k=>k=h1∨k=g) w w':=by
 have x1:=h.cell 1
 have x3:=h.cell 3
 have xl:=h.lt
 simp only[FF] at x1 x3
 have l0:=hl.cellAt 0 (by simp)
 have l1:=hl.cellAt 1 (by simp)
 have l2:=hl.cellAt 2 (by simp)
 have m0:=hl.frozenAt 0
 have m1:=hl.frozenAt 1
 have m2:=hl.frozenAt 2
 have n0:=he.cellAt 0 (by simp)
 have n1:=he.cellAt 1 (by simp)
 have n2:=he.cellAt 2 (by simp)
 have p0:=he.frozenAt 0
 have p1:=he.frozenAt 1
 have p2:=he.frozenAt 2
 have gl:=World.block_lt_of_cell? _ _ n0
 have hll:=World.block_lt_of_cell? _ _ l0
 simp only[List.getElem?_cons_zero,List.getElem?_cons_succ] at l0 l1 l2 n0 n1 n2 gl hll
 have ngh:g≠h1:=fun e=>wv hl he (by decide) (k:=h1) (by simp [Value.ownBlock]) (by simp [Value.ownBlock,e])
 have nhg:h1≠g:=fun e=>ngh e.symm
 have ncg:c1≠g:=fun e=>aE he h (by decide) (by simp [Value.ownBlock,e])
 have nch:c1≠h1:=fun e=>aE hl h (by decide) (by simp [Value.ownBlock,e])
 have HL:=Fx hl
 have HE:=Fx he
 clear h hl he
 go_enter func329,ntmps329
 go_wp2_with fail
 have o1:=tC (k:=0) (rows:=[[.int .i64 0,.int .i64 0,.int .i64 0]]) (a:=.int .i64 1) (b:=.int .i64 (-1)) (c:=.int .i64 (-1)) HL.out (by simp) rfl (by omega) rfl rfl rfl
 have e1:=o1.2.ownsRow HE.out (fun k hk e=>by simp [Value.ownBlock] at hk;omega)
 have e2:=((e1.stored 2 (.int .i64 1)).1.stored 0 (.int .i64 0)).1.stored 1 (.int .i64 0)
 have m2:=(((aq.mono o1.2 (G:=fun k=>k=h1∨k=g) (fun _ _ q=>.inl q)).setCell (p:=⟨g,2,none⟩) (fun _=>.inr rfl) (.int .i64 1)).setCell (p:=⟨g,0,none⟩) (fun _=>.inr rfl) (.int .i64 0)).setCell (p:=⟨g,1,none⟩) (fun _=>.inr rfl) (.int .i64 0)
 go_end0
 refine⟨rfl,?_,e2.1,m2⟩
 refine aq.ownsRow ((((aq.refl (fun k=>k=g) _).setCell (p:=⟨g,2,none⟩) (fun _=>rfl) _).setCell (p:=⟨g,0,none⟩) (fun _=>rfl) _).setCell (p:=⟨g,1,none⟩) (fun _=>rfl) _) o1.1 (fun k hk e=>?_)
 simp [Value.ownBlock] at hk
 omega
theorem EB (w:World) (c1:Nat) (h:af w c1 377 #[.int .i64 512,.slice none 0 0,.int .i64 513,.slice none 0 0]) :
 Calls prog 308 #[.pointer (some ⟨c1,0,none⟩),.int .i64 0,.int .i64 0] w fun e w'=>∃ h1 hc g gc,e=.returned (.int .i64 0)/\1<=hc/\1<=gc /\
  af w' c1 377 #[.int .i64 512,.slice (some ⟨h1,0,none⟩) 1 hc,.int .i64 513,.slice (some ⟨g,0,none⟩) 1 gc] /\
  w'.ownsRow w.heap.size 371 3 (.slice (some ⟨h1,0,none⟩) 1 hc) 1 [.int .i64 1,.int .i64 (-1),.int .i64 (-1)]/\w'.ownsRow w.heap.size 369 3 (.slice (some ⟨g,0,none⟩) 1 gc) 1 [.int .i64 0,.int .i64 0,.int .i64 1]/\aq (fun k=>k=c1) w w':=by
 have HL:=Fx (D2 w c1 h)
 clear h
 go_enter func308,ntmps308
 go_wp2_with fail
 refine HL.out.mono ?_
 rintro e w1 ⟨g,gc,rfl,hgc,hb1,ho1,hm1⟩
 have HB:=Fx hb1
 have HO:=Fx ho1
 have HM:=Fx hm1
 have HLo:=Fx (Co w1 c1 _ hb1)
 clear hb1 ho1 hm1 HL
 go_wp2_with fail
 refine HLo.out.mono ?_
 rintro e w2 ⟨h1,hc,rfl,hhc,hb2,ho2,hm2⟩
 have hgo:=hm2.ownsRow HO.out (fun k hk e=>aE HO.out HB.out (by decide) (by rw[hk,e]))
 have n1:=hgo.cellAt 1 (by simp)
 have gl:=World.block_lt_of_cell? _ _ n1
 simp only[List.getElem?_cons_zero,List.getElem?_cons_succ] at n1 gl
 have ncg:c1≠g:=fun e=>aE hgo hb2 (by decide) (by simp [Value.ownBlock,e])
 have nch:c1≠h1:=fun e=>aE ho2 hb2 (by decide) (by simp [Value.ownBlock,e])
 have lg:=(hgo.lt g rfl).1
 have lh:=(ho2.lt h1 rfl).1
 have sz:=HM.out.size
 have HI:=Fx (EI w2 c1 h1 hc g gc w.heap.size hb2 hhc hgc (World.ownsRow.low ho2 sz) hgo)
 have HB2:=Fx hb2
 have HM2:=Fx (HM.out.trans hm2 (fun _ _ q=>q))
 clear hb2 ho2 hm2 HB HO HM HLo hgo
 go_wp2_with fail
 refine HI.out.mono ?_
 rintro e w3 ⟨rfl,hl3,he3,hm3⟩
 have HL3:=Fx hl3
 have HE3:=Fx he3
 have HM3:=Fx hm3
 clear hl3 he3 hm3 n1 gl
 go_wp2_with fail
 go_ret
 exact⟨h1,hc,g,gc,rfl,hhc,hgc,HB2.out.mod HM3.out (by simp [ncg,nch]),HL3.out,HE3.out,HM2.out.trans HM3.out (fun k hk q=>by rcases q with q | q<;>omega)⟩
