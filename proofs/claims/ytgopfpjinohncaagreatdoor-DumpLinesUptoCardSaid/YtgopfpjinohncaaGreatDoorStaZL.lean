/- Lookups in a map with one entry; store.Store.rowAt; chain.Lists.list; walked (printed by mksta.py). chain.Lists.Walk over a list with one cell, a contract for whatever loop body. store.Store.rowsOf, Rows of a store with one row; walked (printed by mkstc.py). -/
import Derived.Test.YtgopfpjinohncaaGreatDoorSt8ZL
import Derived.Test.YtgopfpjinohncaaGreatDoorSkgZL
import Derived.RangeFuncNested
import Derived.RangeFuncBound
import Derived.RangeFuncCalls
import Derived.RangeFuncLeaves
import Derived.OwnWalkIn
import Derived.TacticsInMore
import Derived.LoopNIn
import Derived.LoopIn
namespace Go.Proofs.YtgopfpjinohncaaGreatDoor
open Go.RowKit
set_option linter.unusedVariables false
theorem lk_int {P:Program} {w:World} (mty kt et:TypeId) (r c b:Nat) (n:Int) (val:Value) (hm:P.underlying mty=some (.map kt et)) (hk:P.underlying kt=some (.int .i64)) (hb:MapB w r #[{ key:=.int .i64 n,val:=val,born:=b }] c) :
 (Instr.lookup mty (.map (some r)) (.int .i64 n) false).run P w=.ok val w:=by
 have hf:Instr.findNow (.int .i64) (.int .i64 n) [({ key:=.int .i64 n,val:=val,born:=b }:MapEntry)] 0=some (some (0,val)):=by simp [Instr.findNow,Instr.sameNow]
 have hc:(Instr.checkKey false 10000 kt (.int .i64 n)).run P w=.ok () w:=MapKept.run_checkKey (k:=.int .i64 n) hk (by simp [MapKept.IsKey]) false 9999
 simp [Instr.lookup,run_underlying hm,MapKept.run_getObj_map hb,hc,MapKept.run_findKey hk hf,Result.andThen]
theorem lk_str {P:Program} {w:World} (mty kt et:TypeId) (r c b:Nat) (s:ByteArray) (val:Value) (hm:P.underlying mty=some (.map kt et)) (hk:P.underlying kt=some .string) (hb:MapB w r #[{ key:=.string s,val:=val,born:=b }] c) :
 (Instr.lookup mty (.map (some r)) (.string s) false).run P w=.ok val w:=by
 have hf:Instr.findNow .string (.string s) [({ key:=.string s,val:=val,born:=b }:MapEntry)] 0=some (some (0,val)):=by simp [Instr.findNow,Instr.sameNow,(MapKept.bytes_beq s s).2 rfl]
 have hc:(Instr.checkKey false 10000 kt (.string s)).run P w=.ok () w:=MapKept.run_checkKey (k:=.string s) hk (by simp [MapKept.IsKey]) false 9999
 simp [Instr.lookup,run_underlying hm,MapKept.run_getObj_map hb,hc,MapKept.run_findKey hk hf,Result.andThen]
set_option maxHeartbeats 4000000 in
set_option maxRecDepth 100000 in
theorem clist1 (w:World) (c1 g gc:Nat) (x1:Value) (hc1:1<=gc) (h:Blk w c1 377 #[.int .i64 512,x1,.int .i64 513,.slice (some ⟨g,0,none⟩) 1 gc]) :
 Calls Tryz.prog 281 #[.pointer (some ⟨c1,0,none⟩),.int .i64 0] w fun e w'=>e=.returned (.tuple #[.pointer (some ⟨g,0,none⟩),.int .i64 0])/\w'=w:=by
 have c2:=h.cell 2
 have c3:=h.cell 3
 have hlt:=h.lt
 simp only[List.getElem?_toArray,List.getElem?_cons_zero,List.getElem?_cons_succ] at c2 c3
 clear h
 go_enter Tryz.func281,Tryz.ntmps281
 go_wp2_with fail
 refine wp_loop_rounds 1 ?_
 rw[rounds_succ]
 go_wp2_with fail
 go_ret2
 exact⟨rfl,rfl⟩
set_option maxHeartbeats 4000000 in
set_option maxRecDepth 100000 in
theorem rowAt0 (w:World) (B st a1 m1 h1 a2 m2 c1:Nat) (mk:Bool) (u:Value) (ka:Option Addr) (kc:Nat) (hkc:kc<=maxLen) (hs:Blk w st 326 #[.int .i64 0,.int .i64 512,.int .i64 1,.slice none 0 0,.pointer (some ⟨a1,0,none⟩),.map (some m1),.pointer (some ⟨h1,0,none⟩),.slice none 0 0,.pointer (some ⟨a2,0,none⟩),.map (some m2),.pointer (some ⟨c1,0,none⟩),.bool mk,u]) (hr:HasRow B w a1 m1 c1 (.slice ka 0 kc)) :
 Calls Tryz.prog 247 #[.pointer (some ⟨st,0,none⟩),.int .i64 0] w fun e w'=>(∃ a c,e=.returned (.slice a 0 c))/\Below w.heap.size w w':=by
 obtain⟨g,gc,hl,hc,ge,ec,q1,q2,q3,q4,q5,q6,q7,q8,q9⟩:=hr
 have hlk:=lk_int (P:=Tryz.prog) (w:=w.drew) 319 3 381 m1 1 0 0 (.agg #[.int .i64 0,.int .i64 1]) (by kernel_rfl) (by kernel_rfl) q6.drew
 have hw0:IntKind.i64.wrap 0=0:=by kernel_rfl
 have HAt:=Lib.hid (aat0 w.drew a1 g gc q1 _ _ _ q4.drew B q5)
 have HS:=Lib.hid hs
 clear hs q1 q2 q3 q4 q5 q6 q7 q8 q9
 go_enter Tryz.func247,Tryz.ntmps247
 go_wp2_with fail
 obtain⟨SS,hSS⟩:∃ SS:World->Prop,SS=fun W=>Blk W st 326 #[.int .i64 0,.int .i64 512,.int .i64 1,.slice none 0 0,.pointer (some ⟨a1,0,none⟩),.map (some m1),.pointer (some ⟨h1,0,none⟩),.slice none 0 0,.pointer (some ⟨a2,0,none⟩),.map (some m2),.pointer (some ⟨c1,0,none⟩),.bool mk,u]:=⟨_,rfl⟩
 have HSC:Hid (∀ W,SS W->W.cell? ⟨st,2,none⟩=some (.int .i64 1)/\W.cell? ⟨st,4,none⟩=some (.pointer (some ⟨a1,0,none⟩))/\W.cell? ⟨st,5,none⟩=some (.map (some m1))/\st<W.heap.size):=Lib.hid (fun W q=>by
  rw[hSS] at q
  have r0:=q
  exact⟨(r0.cell 2).trans rfl,(r0.cell 4).trans rfl,(r0.cell 5).trans rfl,r0.lt⟩)
 have HSI:Hid (∀ W,Blk W st 326 #[.int .i64 0,.int .i64 512,.int .i64 1,.slice none 0 0,.pointer (some ⟨a1,0,none⟩),.map (some m1),.pointer (some ⟨h1,0,none⟩),.slice none 0 0,.pointer (some ⟨a2,0,none⟩),.map (some m2),.pointer (some ⟨c1,0,none⟩),.bool mk,u]->SS W):=Lib.hid (fun W q=>by rw[hSS];exact q)
 clear hSS
 have HSS:SS w.drew:=HSI.out _ (HS.out.drew)
 refine wp_region_held_drew (by kernel_rfl) HSS (fun _=>?_)
 refine Held.tk 0 8 HSS ?_
 refine Held.tk 1 9 HSS ?_
 refine Held.tk 2 10 HSS ?_
 refine Held.tk 3 11 HSS ?_
 refine Held.tk 4 12 HSS ?_
 refine Held.tk 5 13 HSS ?_
 refine Held.tk 6 14 HSS ?_
 refine Held.tk 7 15 HSS ?_
 refine Held.tk 8 16 HSS ?_
 refine Held.on 9 (fun K hK=>?_)
 go_simp
 refine hK.out _ _ HSS ?_
 clear hK K
 try simp only[List.setIfInBounds_toArray,List.set_cons_succ,List.set_cons_zero]
 refine Held.on 10 (fun K hK=>?_)
 go_simp
 refine hK.out _ _ HSS ?_
 clear hK K
 try simp only[List.setIfInBounds_toArray,List.set_cons_succ,List.set_cons_zero]
 refine Held.on 11 (fun K hK=>?_)
 go_simp
 refine hK.out _ _ HSS ?_
 clear hK K
 try simp only[List.setIfInBounds_toArray,List.set_cons_succ,List.set_cons_zero]
 refine Held.on 12 (fun K hK=>?_)
 have q:=HSC.out _ HSS
 repeat (obtain⟨_,q⟩:=q)
 go_simp
 refine hK.out _ _ HSS ?_
 clear hK K
 clear q
 try simp only[List.setIfInBounds_toArray,List.set_cons_succ,List.set_cons_zero]
 refine Held.on 13 (fun K hK=>?_)
 go_simp
 refine hK.out _ _ HSS ?_
 clear hK K
 try simp only[List.setIfInBounds_toArray,List.set_cons_succ,List.set_cons_zero]
 refine Held.on 14 (fun K hK=>?_)
 go_simp
 refine hK.out _ _ HSS ?_
 clear hK K
 try simp only[List.setIfInBounds_toArray,List.set_cons_succ,List.set_cons_zero]
 refine Held.on 15 (fun K hK=>?_)
 go_simp
 refine HAt.out.mono ?_
 rintro e w1 ⟨rfl,hb⟩
 have HB1:=Lib.hid hb
 clear HSS
 have HSS:=HSI.out w1 (HS.out.drew.below hb HS.out.lt)
 refine hK.out _ _ HSS ?_
 clear hK K hb
 try simp only[List.setIfInBounds_toArray,List.set_cons_succ,List.set_cons_zero]
 refine Held.tk 16 7 HSS ?_
 refine Held.tk 17 24 HSS ?_
 refine Held.tk 18 25 HSS ?_
 refine Held.tk 19 5 HSS ?_
 refine Held.tk 20 6 HSS ?_
 refine wpAnyH_done (by kernel_rfl) ?_ _
 clear HSS HSC HSI hlk
 go_wp2_with fail
 refine (clone_Val w1 (.slice ka 0 kc) [] (rowAt_nil w1 ka kc 3 hkc) (by simp) (by simp) (by simp)).mono ?_
 rintro e w2 ⟨v2,rfl,ho2,hb2⟩
 obtain⟨ra,rc,rfl⟩:=own_sl ho2
 have HB2:=Lib.hid (bt2 (bdrew (Below.refl w.heap.size w)) (bt2 HB1.out hb2))
 clear ho2 hb2
 go_wp2_with fail
 go_ret
 exact⟨⟨_,_,rfl⟩,HB2.out⟩
attribute [local go_sem] Oper.semAt_some
set_option linter.unusedVariables false
def encI (_:Unit):Array Value:=#[.int .i64 0]
def Grow (w w':World):Prop:=w.heap.size<=w'.heap.size
theorem grown_below {w w':World} (h:Below w.heap.size w w'):w.grownBy w' none:=⟨h.os,h.tape,h.output,h.size,fun k hk _=>h.block k hk⟩
theorem abides_below {β:Type} {B:Nat} {J:β->World->Prop} (h:AbidesFrom B J) {s:β} {w w':World} (hb:Below w.heap.size w w') (hs:J s w):J s w':=h s w w' none hs (grown_below hb) (fun r e=>by cases e)
set_option maxHeartbeats 2000000 in
theorem walk_any (c1:Nat) (w:World):Calls Tryz.prog 246 #[.pointer (some ⟨c1,0,none⟩),.int .i64 0] w fun e w' =>
 e=.returned (.func (.func 280) #[] #[.pointer (some ⟨w.heap.size,0,none⟩),.pointer (some ⟨w.heap.size+1,0,none⟩)])/\w'=(w.alloc (.cells #[.pointer (some ⟨c1,0,none⟩)] 323)).alloc (.cells #[.int .i64 0] 3):=by
 have hmf:∀ (fn:Fn) (first cap:Array Value) (w:World),(Instr.makeFunc fn first cap).run Tryz.prog w=.ok (.func fn first cap) w:=fun _ _ _ _=>rfl
 go_enter Tryz.func246,Tryz.ntmps246
 go_wp2
 go_ret
 exact⟨rfl,rfl⟩
set_option maxRecDepth 100000 in
set_option maxHeartbeats 4000000 in
theorem walk1_in (n:Nat) (hn:1<=n) (l Bs B2 c1 hl hc g gc B:Nat) (J Jx:List Unit->World->Prop) (W:World) (h1:W.cell? ⟨Bs,0,none⟩=some (.pointer (some ⟨c1,0,none⟩))) (h2:W.cell? ⟨B2,0,none⟩=some (.int .i64 0))
 (h:Blk W c1 377 #[.int .i64 512,.slice (some ⟨hl,0,none⟩) 1 hc,.int .i64 513,.slice (some ⟨g,0,none⟩) 1 gc]) (hhc:1<=hc) (hgc:1<=gc)
 (hlk:W.ownsRow B 371 3 (.slice (some ⟨hl,0,none⟩) 1 hc) 1 [.int .i64 1,.int .i64 (-1),.int .i64 (-1)]) (hen:W.ownsRow B 369 3 (.slice (some ⟨g,0,none⟩) 1 gc) 1 [.int .i64 0,.int .i64 0,.int .i64 1])
 (hJ:AbidesFrom W.heap.size J)
 (hY:∀ pre x W1,J pre W1->pre.length<1->YieldAt Fence.wide (n - 1) Tryz.prog l (encI x) W1 fun e W'=>(e=.returned (.bool true)/\J (pre++[x]) W'/\Grow W1 W')∨(e=.returned (.bool false)/\Jx (pre++[x]) W'))
 (h0:J [] W) :
 CallsIn Fence.wide n Tryz.prog 280 #[.func (.yield l) #[] #[],.pointer (some ⟨Bs,0,none⟩),.pointer (some ⟨B2,0,none⟩)] W fun e W'=>(∃ v,e=.returned v)/\((∃ xs,xs=[()]/\J xs W')∨(∃ pre,pre=[()]/\Jx pre W')):=by
 obtain⟨ii,hii,hj0,hj1,hj2⟩:=info_parts Tryz.infoI
 refine callsIn_of_wp Tryz.func280 rfl trivial ?_ rfl
 simp only[Tryz.ntmps280,List.size_toArray,List.length_cons,List.length_nil,Nat.reduceAdd,Nat.reduceSub,Array.replicate_succ,Array.replicate_zero,List.push_toArray,List.append_toArray,List.nil_append,List.cons_append]
 have n0:=hen.cellAt 0 (by simp)
 have n2:=hen.cellAt 2 (by simp)
 have l2:=hlk.cellAt 2 (by simp)
 have gl:=World.block_lt_of_cell? _ _ n0
 have hll:=World.block_lt_of_cell? _ _ l2
 simp only[List.getElem?_cons_zero,List.getElem?_cons_succ] at n0 n2 l2 gl hll
 have x1:=h.cell 1
 have xl:=h.lt
 simp only[List.getElem?_toArray,List.getElem?_cons_zero,List.getElem?_cons_succ] at x1
 have bl:=World.block_lt_of_cell? _ _ h1
 simp only at bl
 have HL:=Lib.hid (clist1 W c1 g gc _ hgc h)
 have HJ:=Lib.hid hJ
 have HY:=Lib.hid hY
 have H0:=Lib.hid h0
 have HC:=Lib.hid (show W.cell? ⟨g,0,none⟩=some (.int .i64 0)/\W.cell? ⟨hl,2,none⟩=some (.int .i64 (-1))/\W.cell? ⟨c1,1,none⟩=some (.slice (some ⟨hl,0,none⟩) 1 hc)/\W.cell? ⟨Bs,0,none⟩=some (.pointer (some ⟨c1,0,none⟩)) from ⟨n0,l2,x1,h1⟩)
 have HLT:=Lib.hid (show g<W.heap.size/\hl<W.heap.size/\c1<W.heap.size/\Bs<W.heap.size from ⟨gl,hll,xl,bl⟩)
 clear h hlk hen hJ hY h0
 gi_wp2_with fail
 refine⟨trivial,?_⟩
 refine (callsIn_wide.2 HL.out).mono ?_
 rintro e w1 ⟨rfl,hw1⟩
 subst hw1
 obtain⟨q,hq⟩:∃ q,w1.heap.size=q:=⟨_,rfl⟩
 gi_wp2_with (gi_at_make;refine wpListIn_make_own _ rfl _ _ 215 rfl q 3 ii (.int .i64 0) 1 Tryz.underlying215 hii hj0 hj1 _ _ _ 1 rfl rfl rfl ?b2 ?b3 ?b4 ?_)
 case b2=>rw[hj2];omega
 case b3=>unfold maxLen;omega
 case b4=>omega
 intro w2 hown2 hgrow2
 have hb2:Below w1.heap.size w1 w2:=(Below.refl _ w1).grown hgrow2 (Nat.le_refl _) (fun q hq=>by cases hq)
 have c0:=(hb2.cell (p:=⟨g,0,none⟩) gl).trans n0
 try rw[hq] at hown2
 have HO2:=Lib.hid hown2
 have HB2:=Lib.hid hb2
 have gl2:=Nat.lt_of_lt_of_le gl hb2.size
 clear n0 n2 l2 x1 h1 h2 hown2 hgrow2 hb2
 gi_wp2_with fail
 refine wpIn_loop_rounds 2 ?_
 rw[roundsIn_succ]
 gi_wp2_with (gi_at_builtin;refine wpListIn_append_fits _ rfl (.tmp 38) (.tmp 40) 215 rfl q 3 ii 1 Tryz.underlying215 hii hj1 q 0 1 [] rfl (HO2.out.alloc _) ⟨_,0,none⟩ 1 1 [.int .i64 0] rfl rfl (World.news_of_block (Blk.new _ _ _)) (by simp [Value.oneCell']) (by decide) ?_)
 intro w3 hown3 hgrow3
 have hb3:Below w1.heap.size w1 w3:=by
  rw[hq]
  have hm:Mod (fun k=>k=q) w1 w3:=((Mod.ofBelow (F:=fun k=>k=q) HB2.out).alloc _).grown hgrow3 (fun k hk _=>by cases hk;rfl)
  exact hm.below (by rw[hq];exact Nat.le_refl _) (fun k e=>by omega)
 have d0:=(hb3.cell (p:=⟨Bs,0,none⟩) HLT.out.2.2.2).trans HC.out.2.2.2
 have d1:=(hb3.cell (p:=⟨c1,1,none⟩) HLT.out.2.2.1).trans HC.out.2.2.1
 have d2:=(hb3.cell (p:=⟨hl,2,none⟩) HLT.out.2.1).trans HC.out.2.1
 have hz:=hb3.size
 have e0:=Nat.lt_of_lt_of_le HLT.out.2.2.2 hz
 have e1:=Nat.lt_of_lt_of_le HLT.out.2.2.1 hz
 have e2:=Nat.lt_of_lt_of_le HLT.out.2.1 hz
 have k0:=hown3.cellAt 0 (by simp)
 have kl:=World.block_lt_of_cell? _ _ k0
 simp only[List.getElem?_cons_zero] at k0 kl
 have HJ3:=Lib.hid (abides_below HJ.out hb3 H0.out)
 clear hown3 hgrow3 hb3 c0 gl2 hz HO2 HB2
 gi_wp2_with fail
 rw[roundsIn_succ]
 gi_wp2_with fail
 refine wpIn_loop_rounds 2 ?_
 rw[roundsIn_succ]
 obtain⟨fn,tmps,assign,body,hy,hR⟩:=HY.out [] () w3 HJ3.out (by simp)
 unfold encI at hy
 gi_wp2
 refine hR.mono ?_
 clear hR hy
 rintro e W3 (⟨rfl,hJ4,hk4⟩ | ⟨rfl,hJx⟩)
 ·have HJ4:=Lib.hid hJ4
  clear hJ4 hk4
  gi_wp2
  rw[roundsIn_succ]
  gi_wp2
  go_end0
  exact⟨⟨_,rfl⟩,.inl ⟨[()],rfl,HJ4.out⟩⟩
 ·have HJX:=Lib.hid hJx
  clear hJx
  gi_wp2
  refine bodyPost_ret (results_none rfl _ _ _) rfl ?_
  exact⟨⟨_,rfl⟩,.inr ⟨[()],rfl,HJX.out⟩⟩
theorem walk_stops (n:Nat) (hn:1<=n) (Bs B2 c1 hl hc g gc B:Nat) (w:World) (h1:w.cell? ⟨Bs,0,none⟩=some (.pointer (some ⟨c1,0,none⟩))) (h2:w.cell? ⟨B2,0,none⟩=some (.int .i64 0))
 (h:Blk w c1 377 #[.int .i64 512,.slice (some ⟨hl,0,none⟩) 1 hc,.int .i64 513,.slice (some ⟨g,0,none⟩) 1 gc]) (hhc:1<=hc) (hgc:1<=gc)
 (hlk:w.ownsRow B 371 3 (.slice (some ⟨hl,0,none⟩) 1 hc) 1 [.int .i64 1,.int .i64 (-1),.int .i64 (-1)]) (hen:w.ownsRow B 369 3 (.slice (some ⟨g,0,none⟩) 1 gc) 1 [.int .i64 0,.int .i64 0,.int .i64 1]) :
 SeqStopsK Fence.wide n Tryz.prog 280 #[.pointer (some ⟨Bs,0,none⟩),.pointer (some ⟨B2,0,none⟩)] encI Grow (fun xs=>xs=[()]) (fun pre=>pre=[()]) 1 w :=
 fun l J Jx W hW hJ hJx hY h0 =>
  walk1_in n hn l Bs B2 c1 hl hc g gc B J Jx W ((hW.cell (p:=⟨Bs,0,none⟩) (World.block_lt_of_cell? w _ h1)).trans h1) ((hW.cell (p:=⟨B2,0,none⟩) (World.block_lt_of_cell? w _ h2)).trans h2) (h.below hW h.lt) hhc hgc
   ((Mod.ofBelow (F:=fun _=>False) hW).ownsRow hlk (fun _ _ f=>f)) ((Mod.ofBelow (F:=fun _=>False) hW).ownsRow hen (fun _ _ f=>f)) hJ hY h0
attribute [local go_sem] Oper.semAt_some
set_option linter.unusedVariables false
theorem own_else {W W':World} {row:Option Nat} {base:Nat} {e:TypeId} {size n:Nat} {v:Value} {xs:List Value} (h:W.ownsRow base e size v n xs) (hg:W.grownBy W' row) (hr:∀ r,row=some r->∃ o:Obj,W.heap[r]? = some o/\o.isCells=false):W'.ownsRow base e size v n xs:=by
 refine h.kept hg ?_
 rcases h.2 with ⟨rfl,_⟩ | ⟨g,cap,cur,rfl,_,hh,_⟩
 ·exact .inl rfl
 ·right
  intro e1
  obtain⟨o,ho,hc⟩:=hr g e1.symm
  rw[hh] at ho
  cases ho
  cases hc
theorem blk_else {W W':World} {row:Option Nat} {g:Nat} {t:TypeId} {cs:Array Value} (h:Blk W g t cs) (hg:W.grownBy W' row) (hr:∀ r,row=some r->∃ o:Obj,W.heap[r]? = some o/\o.isCells=false):Blk W' g t cs:=by
 refine h.grown hg ?_
 intro e1
 obtain⟨o,ho,hc⟩:=hr g e1.symm
 rw[show W.heap[g]? = _ from h] at ho
 cases ho
 cases hc
structure RoI (w:World) (B st a1 m1 h1 a2 m2 c1:Nat) (mk:Bool) (u r:Value) (y o k:Nat) (W:World):Prop where
 s:Blk W st 326 #[.int .i64 0,.int .i64 512,.int .i64 1,.slice none 0 0,.pointer (some ⟨a1,0,none⟩),.map (some m1),.pointer (some ⟨h1,0,none⟩),.slice none 0 0,.pointer (some ⟨a2,0,none⟩),.map (some m2),.pointer (some ⟨c1,0,none⟩),.bool mk,u]
 r:HasRow B W a1 m1 c1 r
 y:Blk W y 183 #[.pointer (some ⟨st,0,none⟩)]
 o:∃ v xs,Blk W o 45 #[v]/\W.ownsRow w.heap.size 59 1 v k xs/\(k=0->v=.slice none 0 0)
 b:Below w.heap.size w W
theorem RoI.other {w W W':World} {B st a1 m1 h1 a2 m2 c1:Nat} {mk:Bool} {u r:Value} {y o k:Nat} {row:Option Nat} (h:RoI w B st a1 m1 h1 a2 m2 c1 mk u r y o k W) (hm:m1<w.heap.size) (hg:W.grownBy W' row) (hr:∀ r,row=some r->w.heap.size<=r/\∃ o:Obj,W.heap[r]? = some o/\o.isCells=false):RoI w B st a1 m1 h1 a2 m2 c1 mk u r y o k W':=by
 have hr':∀ r,row=some r->∃ o:Obj,W.heap[r]? = some o/\o.isCells=false:=fun r e=>(hr r e).2
 obtain⟨v,xs,h3,h4,h5⟩:=h.o
 obtain⟨g,gc,hl,hc,ge,ec,q1,q2,q3,q4,q5,q6,q7,q8,q9⟩:=h.r
 refine⟨blk_else h.s hg hr',⟨g,gc,hl,hc,ge,ec,q1,q2,q3,blk_else q4 hg hr',own_else q5 hg hr',?_,blk_else q7 hg hr',own_else q8 hg hr',own_else q9 hg hr'⟩,blk_else h.y hg hr',⟨v,xs,blk_else h3 hg hr',own_else h4 hg hr',h5⟩,h.b.grown hg h.b.size (fun k hk=>(hr k hk).1)⟩
 exact (hg.block m1 q6.lt (fun e=>by have:=(hr _ e.symm).1;omega)).trans q6
theorem RoI.keep {w W W':World} {B st a1 m1 h1 a2 m2 c1:Nat} {mk:Bool} {u r:Value} {y o k:Nat} (h:RoI w B st a1 m1 h1 a2 m2 c1 mk u r y o k W) (hb:Below W.heap.size W W'):RoI w B st a1 m1 h1 a2 m2 c1 mk u r y o k W':=by
 obtain⟨v,xs,h3,h4,h5⟩:=h.o
 exact⟨h.s.below hb h.s.lt,h.r.keep hb,h.y.below hb h.y.lt,⟨v,xs,h3.below hb h3.lt,(Mod.ofBelow (F:=fun _=>False) hb).ownsRow h4 (fun _ _ f=>f),h5⟩,h.b.trans (hb.mono h.b.size)⟩
theorem HasRow.store {B g:Nat} {t:TypeId} {cs:Array Value} {w w':World} {a1 m1 c1:Nat} {r:Value} (h:HasRow B w a1 m1 c1 r) (hb:Blk w g t cs) (ht:t≠394/\t≠418/\t≠377/\t≠371/\t≠369) (hm:Mod (fun k=>k=g) w w'):HasRow B w' a1 m1 c1 r:=by
 obtain⟨g',gc,hl,hc,ge,ec,q1,q2,q3,q4,q5,q6,q7,q8,q9⟩:=h
 exact⟨g',gc,hl,hc,ge,ec,q1,q2,q3,q4.mod hm (q4.ne_ hb ht.1.symm),hm.ownsRow q5 (fun k hk e=>own_blk_ne q5 hb ht.2.1.symm (by rw[hk,e])),q6.mod hm (q6.ne hb),q7.mod hm (q7.ne_ hb ht.2.2.1.symm),hm.ownsRow q8 (fun k hk e=>own_blk_ne q8 hb ht.2.2.2.1.symm (by rw[hk,e])),hm.ownsRow q9 (fun k hk e=>own_blk_ne q9 hb ht.2.2.2.2.symm (by rw[hk,e]))⟩
theorem keeps_mod {W W':World} {g:Nat} {t:TypeId} {cs:Array Value} (hb:Blk W g t cs) (hm:Mod (fun k=>k=g) W W'):KeepsOthers W W':=⟨hm.size,fun k o hk hc=>by
 refine (hm.block k (Array.getElem?_eq_some_iff.1 hk).1 ?_).trans hk
 rintro rfl
 rw[show W.heap[k]? = _ from hb] at hk
 cases hk
 cases hc⟩
theorem Tryz.infoRw:(Tryz.prog.info? 59).map (fun i=>(i.zero,i.size,i.bytes))=some (some (.slice none 0 0),1,24):=by kernel_rfl
set_option maxRecDepth 100000 in
set_option maxHeartbeats 8000000 in
theorem rowsOf0 (w:World) (B st a1 m1 h1 a2 m2 c1:Nat) (mk:Bool) (u:Value) (ka:Option Addr) (kc:Nat) (hkc:kc<=maxLen) (hs:Blk w st 326 #[.int .i64 0,.int .i64 512,.int .i64 1,.slice none 0 0,.pointer (some ⟨a1,0,none⟩),.map (some m1),.pointer (some ⟨h1,0,none⟩),.slice none 0 0,.pointer (some ⟨a2,0,none⟩),.map (some m2),.pointer (some ⟨c1,0,none⟩),.bool mk,u]) (hr:HasRow B w a1 m1 c1 (.slice ka 0 kc)) :
 Calls Tryz.prog 185 #[.pointer (some ⟨st,0,none⟩),.int .i64 0] w fun e w'=>(∃ a c,e=.returned (.slice a 1 c))/\Below w.heap.size w w':=by
 obtain⟨ir,hir,hf0,hf1,hf2⟩:=info_parts Tryz.infoRw
 obtain⟨y,hy⟩:∃ y,w.heap.size=y:=⟨_,rfl⟩
 have hml:m1<w.heap.size:=by
  obtain⟨_,_,_,_,_,_,_,_,_,_,_,q6,_⟩:=hr
  exact q6.lt
 obtain⟨W1,hW1⟩:∃ W1,(w.alloc (.cells #[.pointer (some ⟨st,0,none⟩)] 183)).alloc (.cells #[.slice none 0 0] 45)=W1:=⟨_,rfl⟩
 have hz1:W1.heap.size=y+1+1:=by rw[<-hW1,<-hy];simp
 have hb1:Below w.heap.size w W1:=by rw[<-hW1];exact balloc (balloc (Below.refl _ _) _) _
 have hI1:RoI w B st a1 m1 h1 a2 m2 c1 mk u (.slice ka 0 kc) y (y+1) 0 W1:=by
  refine⟨hs.below hb1 hs.lt,hr.keep hb1,?_,⟨.slice none 0 0,[],?_,World.ownsRow_nil _ _ _ _,fun _=>rfl⟩,hb1⟩
  ·rw[<-hW1,<-hy];exact (Blk.new _ _ _).alloc _
  ·rw[<-hW1,<-hy]
   have:=Blk.new (w.alloc (.cells #[.pointer (some ⟨st,0,none⟩)] 183)) 45 #[.slice none 0 0]
   rwa [World.size_alloc] at this
 have x10:=hI1.s.cell 10
 have xl:=hI1.s.lt
 have z0:=hI1.y.cell 0
 have zl:=hI1.y.lt
 simp only[List.getElem?_toArray,List.getElem?_cons_zero,List.getElem?_cons_succ] at x10 z0
 have HI1:=Lib.hid hI1
 have HY:=Lib.hid hy
 clear hs hr hI1 hb1
 refine (callsIn_wide (n:=9)).1 ?_
 refine callsIn_of_wp_marks Tryz.func185 rfl trivial ?_ rfl
 simp only[Tryz.ntmps185,List.size_toArray,List.length_cons,List.length_nil,Nat.reduceAdd,Nat.reduceSub,Array.replicate_succ,Array.replicate_zero,List.push_toArray,List.append_toArray,List.nil_append,List.cons_append]
 gi_wp2_with fail
 refine⟨trivial,?_⟩
 refine (callsIn_wide.2 (walk_any c1 _)).mono ?_
 rintro e w2 ⟨rfl,hw2⟩
 gi_wp2_with fail
 obtain⟨W0,hW0⟩:∃ W0,(W1.alloc (.cells #[.pointer (some ⟨c1,0,none⟩)] 323)).alloc (.cells #[.int .i64 0] 3)=W0:=⟨_,rfl⟩
 have hz0:W0.heap.size=y+1+1+1+1:=by rw[<-hW0];simp [hz1]
 have hi0:=HI1.out.keep (show Below W1.heap.size W1 W0 by rw[<-hW0];exact balloc (balloc (Below.refl _ _) _) _)
 have hB1:W0.cell? ⟨y+1+1,0,none⟩=some (.pointer (some ⟨c1,0,none⟩)):=by
  rw[<-hW0,<-hz1]
  exact ((Blk.new W1 323 #[.pointer (some ⟨c1,0,none⟩)]).alloc _).cell 0
 have hB2:W0.cell? ⟨y+1+1+1,0,none⟩=some (.int .i64 0):=by
  have q:=(Blk.new (W1.alloc (.cells #[.pointer (some ⟨c1,0,none⟩)] 323)) 3 #[.int .i64 0]).cell 0
  rw[World.size_alloc,hz1] at q
  rw[<-hW0]
  exact q
 try rw[hW0]
 have HI0:=Lib.hid hi0
 obtain⟨g,gc,hl,hc,ge,ec,q1,q2,q3,q4,q5,q6,q7,q8,q9⟩:=hi0.r
 refine wpIn_rangeFunc_ownH rfl (by omega) (gf:=280) (lb:=#[.pointer (some ⟨y+1+1,0,none⟩),.pointer (some ⟨y+1+1+1,0,none⟩)]) rfl trivial (enters_of Tryz.func280 (by kernel_rfl) rfl)
  (walk_stops 8 (by omega) (y+1+1) (y+1+1+1) c1 hl hc ge ec B W0 hB1 hB2 q7 q2 q3 q8 q9) (fun h k=>Nat.le_trans h k) (fun W l o o' _ _ _ _=>by simp [Grow]) (Below.refl _ _) (fun _=>rfl)
  (fun pre W=>RoI w B st a1 m1 h1 a2 m2 c1 mk u (.slice ka 0 kc) y (y+1) pre.length W)
  (fun _ _ _=>False)
  (fun pre A B' row hs hg hr=>hs.other hml hg (fun r e=>⟨by have:=(hr r e).1;omega,(hr r e).2⟩))
  (fun _ _ _ _ _ hs _ _=>hs)
  HI0.out
  (fun x a' W=>a' = { tmps:=#[.pointer (some ⟨st,0,none⟩),.int .i64 0,.pointer (some ⟨y,0,none⟩),undef,.slice none 0 0,.pointer (some ⟨y+1,0,none⟩),.int .i64 0,.pointer (some ⟨st,0,none⟩),.pointer (some ⟨st,0,none⟩),.pointer (some ⟨st,10,none⟩),.pointer (some ⟨c1,0,none⟩),.int .i64 0,.func (.func 280) #[] #[.pointer (some ⟨y+1+1,0,none⟩),.pointer (some ⟨y+1+1+1,0,none⟩)],.int .i64 0,undef,undef,undef,undef,undef,undef,undef],defers:=[] })
  (fun x a' _ A B row hs hg hr=>hs)
  ?assign ?body ?done ?stop
 case assign =>
  rintro l pre x W K hi hK
  have HI':=Lib.hid hi
  clear hi
  simp only[encI]
  gi_wp2
  exact hK _ _ ((KeepsOthers.refl _).from _) (Nat.le_refl _) HI'.out rfl
 case stop =>
  rintro D c pre W _ _ h _
  exact h.elim
 case body =>
  rintro l pre x a' W hlw ⟨r,hr⟩ hi rfl hlen
  have hk:pre.length=0:=by omega
  have HI:=Lib.hid hi
  obtain⟨v,xs,h3,h4,h5⟩:=hi.o
  have hv:=h5 hk
  subst hv
  have H3:=Lib.hid h3
  have H4:=Lib.hid h4
  have HK0:=Lib.hid hk
  clear h3 h4 h5 hi hr q1 q2 q3 q4 q5 q6 q7 q8 q9 hB1 hB2 HI1 HI0 hW0 hw2 x10 xl z0 zl hW1 hk
  gi_wp2_with fail
  obtain⟨SS,hSS⟩:∃ SS:World->Prop,SS=fun W=>Blk W y 183 #[.pointer (some ⟨st,0,none⟩)]/\Blk W (y+1) 45 #[.slice none 0 0]:=⟨_,rfl⟩
  have HSC:Hid (∀ W,SS W->W.cell? ⟨y,0,none⟩=some (.pointer (some ⟨st,0,none⟩))/\W.cell? ⟨(y+1),0,none⟩=some (.slice none 0 0)/\y<W.heap.size/\(y+1)<W.heap.size):=Lib.hid (fun W q=>by
   rw[hSS] at q
   obtain⟨r0,r1⟩:=q
   exact⟨(r0.cell 0).trans rfl,(r1.cell 0).trans rfl,r0.lt,r1.lt⟩)
  have HSI:Hid (∀ W,Blk W y 183 #[.pointer (some ⟨st,0,none⟩)]/\Blk W (y+1) 45 #[.slice none 0 0]->SS W):=Lib.hid (fun W q=>by rw[hSS];exact q)
  clear hSS
  have HSS:SS W.drew:=HSI.out _ (⟨HI.out.y.drew,H3.out.drew⟩)
  refine AnyT.round SS 6 (by kernel_rfl) (by kernel_rfl) ?_
  refine AnyT.tk 0 14 HSS ?_
  refine AnyT.tk 1 15 HSS ?_
  refine AnyT.on 2 (fun K hK=>?_)
  go_simp
  refine hK.out _ _ (fun _=>HSS) ?_
  clear hK K
  try simp only[List.setIfInBounds_toArray,List.set_cons_succ,List.set_cons_zero]
  refine AnyT.on 3 (fun K hK=>?_)
  go_simp
  refine (rowAt0 W.drew B st a1 m1 h1 a2 m2 c1 mk u ka kc hkc HI.out.s.drew (HI.out.r.keep (bdrew (Below.refl _ _)))).mono ?_
  rintro e w3 ⟨⟨ra,rc,rfl⟩,hb⟩
  have hb3:Below W.heap.size W w3:=bt2 (bdrew (Below.refl _ _)) hb
  have HB3:=Lib.hid hb3
  clear HSS
  have HSS:=HSI.out w3 ⟨HI.out.y.below hb3 HI.out.y.lt,H3.out.below hb3 H3.out.lt⟩
  refine hK.out _ _ (fun _=>HSS) ?_
  clear hK K hb hb3
  try simp only[List.setIfInBounds_toArray,List.set_cons_succ,List.set_cons_zero]
  refine AnyT.on 4 (fun K hK=>?_)
  go_simp
  have hb4:Below W.heap.size W (w3.alloc (.cells #[.slice ra 0 rc] 59)):=balloc HB3.out _
  have hn4:=World.news_of_block (Blk.new w3 59 #[.slice ra 0 rc])
  obtain⟨w4,hw4⟩:∃ w4,w3.alloc (.cells #[.slice ra 0 rc] 59)=w4:=⟨_,rfl⟩
  rw[hw4] at hb4 hn4 ⊢
  have HB4:=Lib.hid hb4
  have HN4:=Lib.hid hn4
  clear HSS
  have HSS:=HSI.out w4 ⟨HI.out.y.below hb4 HI.out.y.lt,H3.out.below hb4 H3.out.lt⟩
  refine hK.out _ _ (fun _=>HSS) ?_
  clear hK K hb4 hn4 hw4 HB3
  try simp only[List.setIfInBounds_toArray,List.set_cons_succ,List.set_cons_zero]
  refine AnyT.on 5 (fun K hK=>?_)
  refine step_append_lies _ rfl (.tmp 14) (.tmp 18) 45 rfl w.heap.size 59 ir (.slice none 0 0) 1 24 Tryz.underlying45 hir hf0 hf1 hf2 rfl (by decide) (.slice none 0 0) 0 [] rfl (World.ownsRow_nil _ _ _ _) ⟨_,0,none⟩ 1 1 [.slice ra 0 rc] rfl rfl HN4.out (by simp [Value.oneCell']) (by decide) (by unfold maxLen;omega) (by omega) ?c4 _ rfl ?_
  case c4=>exact Nat.le_trans HI.out.b.size HB4.out.size
  intro g5 cap5 w5 hown5 hgrow5 hat5 hlt5
  have hb5:Below W.heap.size W w5:=bt2 HB4.out ((Below.refl _ w4).grown hgrow5 (Nat.le_refl _) (fun q hq=>by cases hq))
  have HB5:=Lib.hid hb5
  have HO5:=Lib.hid hown5
  clear HSS
  have HSS:=HSI.out w5 ⟨HI.out.y.below hb5 HI.out.y.lt,H3.out.below hb5 H3.out.lt⟩
  refine hK.out _ _ (fun _=>HSS) ?_
  clear hK K hb5 hown5 hgrow5 hat5 hlt5 HB4 HN4
  simp only[Act.put,List.getElem_toArray,List.getElem_cons_succ,List.getElem_cons_zero,List.setIfInBounds_toArray,List.set_cons_succ,List.set_cons_zero]
  try simp only[List.setIfInBounds_toArray,List.set_cons_succ,List.set_cons_zero]
  refine AnyT.on 6 (fun K hK=>?_)
  have hv5:=H3.out.below HB5.out H3.out.lt
  have x0:=hv5.cell 0
  have xf:=hv5.frozen 0
  have xl:=hv5.lt
  simp only[List.getElem?_toArray,List.getElem?_cons_zero] at x0
  go_simp
  refine hK.out _ _ (fun h=>by simp at h) ?_
  clear hK K x0 xf xl
  try simp only[List.setIfInBounds_toArray,List.set_cons_succ,List.set_cons_zero]
  refine AnyT.done (by kernel_rfl) ?_
  clear HSC HSI HSS
  have hm:Mod (fun k=>k=y+1) w5 (w5.setCell ⟨y+1,0,none⟩ (.slice (some ⟨g5,0,none⟩) 1 cap5)):=(Mod.refl (fun k=>k=y+1) w5).setCell (p:=⟨y+1,0,none⟩) (fun _=>rfl) _
  have hm0:Mod (fun k=>k=y+1) W (w5.setCell ⟨y+1,0,none⟩ (.slice (some ⟨g5,0,none⟩) 1 cap5)):=(Mod.ofBelow HB5.out).trans hm (fun _ _ e=>e)
  have hi5:=HI.out.keep HB5.out
  refine⟨(keeps_mod H3.out hm0).from _,hm0.size,?_⟩
  have hk1:(pre++[x]).length=1:=by rw[List.length_append,HK0.out];rfl
  show RoI w B st a1 m1 h1 a2 m2 c1 mk u (.slice ka 0 kc) y (y+1) (pre++[x]).length _
  rw[hk1]
  refine⟨hi5.s.mod hm (hi5.s.ne_ hv5 (by decide)),hi5.r.store hv5 (by decide) hm,hi5.y.mod hm (by omega),⟨.slice (some ⟨g5,0,none⟩) 1 cap5,[.slice ra 0 rc],by simpa using hv5.set_ 0 (.slice (some ⟨g5,0,none⟩) 1 cap5),?_,fun h=>by omega⟩,hi5.b.trans (hm.below (by have:=hi5.b.size;omega) (fun k e=>by omega))⟩
  refine hm.ownsRow HO5.out (fun k hk e=>own_blk_ne HO5.out hv5 (by decide) (by rw[hk,e]))
 case done =>
  rintro D ys W hD rfl hi hK
  obtain⟨v,xs,h3,h4,_⟩:=hi.o
  obtain⟨va,vc,rfl⟩:=own_sl h4
  have o0:=h3.cell 0
  have ol:=h3.lt
  simp only[List.getElem?_toArray,List.getElem?_cons_zero] at o0
  have HI:=Lib.hid hi
  have HD:=Lib.hid hK
  clear hi h3 h4 hK
  gi_wp2
  refine⟨by simp,.inl ⟨_,_,rfl,run_takeDeferred HD.out,?_⟩⟩
  have hi2:=HI.out.other hml (grownBy_putObj' W D (.deferred none)) (fun r e=>by cases e;exact⟨by omega,_,HD.out,rfl⟩)
  exact⟨_,results_tmp rfl _ _ _,⟨_,_,rfl⟩,hi2.b⟩
set_option maxRecDepth 100000 in
set_option maxHeartbeats 2000000 in
theorem rows0 (w:World) (B st a1 m1 h1 a2 m2 c1:Nat) (mk:Bool) (u:Value) (ka:Option Addr) (kc:Nat) (hkc:kc<=maxLen) (hs:Blk w st 326 #[.int .i64 0,.int .i64 512,.int .i64 1,.slice none 0 0,.pointer (some ⟨a1,0,none⟩),.map (some m1),.pointer (some ⟨h1,0,none⟩),.slice none 0 0,.pointer (some ⟨a2,0,none⟩),.map (some m2),.pointer (some ⟨c1,0,none⟩),.bool mk,u]) (hr:HasRow B w a1 m1 c1 (.slice ka 0 kc)) :
 Calls Tryz.prog 109 #[.pointer (some ⟨st,0,none⟩)] w fun e w'=>(∃ a c,e=.returned (.slice a 1 c))/\Below w.heap.size w w':=by
 have H:=Lib.hid (rowsOf0 w B st a1 m1 h1 a2 m2 c1 mk u ka kc hkc hs hr)
 clear hs hr
 go_enter Tryz.func109,Tryz.ntmps109
 go_wp2_with fail
 refine H.out.mono ?_
 rintro e w1 ⟨⟨a,c,rfl⟩,hb⟩
 have HB:=Lib.hid hb
 clear hb
 go_wp2_with fail
 go_ret
 exact⟨⟨_,_,rfl⟩,HB.out⟩
end Go.Proofs.YtgopfpjinohncaaGreatDoor
