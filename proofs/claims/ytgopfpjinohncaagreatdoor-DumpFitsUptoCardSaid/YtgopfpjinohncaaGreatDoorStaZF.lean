/- Lookups in a map with one entry; store.Store.rowAt; chain.Lists.list; walked (printed. -/
import Derived.Test.YtgopfpjinohncaaGreatDoorSt8ZF
import Derived.Test.YtgopfpjinohncaaGreatDoorSt2ZF
import Derived.Test.YtgopfpjinohncaaGreatDoorDfiZF
import Derived.RangeFuncNested
import Derived.RangeFuncBound
import Derived.OwnWalkIn
import Derived.TacticsInMore
import Derived.LoopNIn
import Derived.LoopIn
set_option maxHeartbeats 8000000
set_option maxRecDepth 100000
set_option linter.unusedVariables false
namespace Go.Proofs.YtgopfpjinohncaaGreatDoor
open Go.Proofs.Tryz
open Go.RowKit
theorem D3 {P:Program} {w:World} (mty kt et:TypeId) (r c b:Nat) (n:Int) (val:Value) (hm:P.underlying mty=some (.map kt et)) (hk:P.underlying kt=some (.int .i64)) (hb:bF w r #[{ key:=.int .i64 n,val:=val,born:=b }] c) :
 (Instr.lookup mty (.map (some r)) (.int .i64 n) false).run P w=.ok val w:=by
 have hf:Instr.findNow (.int .i64) (.int .i64 n) [({ key:=.int .i64 n,val:=val,born:=b }:MapEntry)] 0=some (some (0,val)):=by simp [Instr.findNow,Instr.sameNow]
 have hc:(Instr.checkKey false 10000 kt (.int .i64 n)).run P w=.ok () w:=MapKept.run_checkKey (k:=.int .i64 n) hk (by simp [MapKept.IsKey]) false 9999
 simp [Instr.lookup,run_underlying hm,MapKept.run_getObj_map hb,hc,MapKept.run_findKey hk hf,Result.andThen]
theorem Ag {P:Program} {w:World} (mty kt et:TypeId) (r c b:Nat) (s:ByteArray) (val:Value) (hm:P.underlying mty=some (.map kt et)) (hk:P.underlying kt=some .string) (hb:bF w r #[{ key:=.string s,val:=val,born:=b }] c) :
 (Instr.lookup mty (.map (some r)) (.string s) false).run P w=.ok val w:=by
 have hf:Instr.findNow .string (.string s) [({ key:=.string s,val:=val,born:=b }:MapEntry)] 0=some (some (0,val)):=by simp [Instr.findNow,Instr.sameNow,(MapKept.bytes_beq s s).2 rfl]
 have hc:(Instr.checkKey false 10000 kt (.string s)).run P w=.ok () w:=MapKept.run_checkKey (k:=.string s) hk (by simp [MapKept.IsKey]) false 9999
 simp [Instr.lookup,run_underlying hm,MapKept.run_getObj_map hb,hc,MapKept.run_findKey hk hf,Result.andThen]
theorem D9 (w:World) (c1 g gc:Nat) (x1:Value) (hc1:1<=gc) (h:af w c1 377 #[.int .i64 512,x1,.int .i64 513,.slice (some ⟨g,0,none⟩) 1 gc]) :
 Calls prog 281 #[.pointer (some ⟨c1,0,none⟩),.int .i64 0] w fun e w'=>e=.returned (.tuple #[.pointer (some ⟨g,0,none⟩),.int .i64 0])/\w'=w:=by
 have c2:=h.cell 2
 have c3:=h.cell 3
 have hlt:=h.lt
 simp only[FF] at c2 c3
 clear h
 go_enter func281,ntmps281
 go_wp2_with fail
 refine wp_loop_rounds 1 ?_
 rw[rounds_succ]
 go_wp2_with fail
 go_ret2
 exact⟨rfl,rfl⟩
theorem DN (w:World) (B st a1 m1 h1 a2 m2 c1:Nat) (mk:Bool) (u:Value) (ka:Option Addr) (kc:Nat) (hkc:kc<=maxLen) (hs:af w st 326 #[.int .i64 0,.int .i64 512,.int .i64 1,.slice none 0 0,.pointer (some ⟨a1,0,none⟩),.map (some m1),.pointer (some ⟨h1,0,none⟩),.slice none 0 0,.pointer (some ⟨a2,0,none⟩),.map (some m2),.pointer (some ⟨c1,0,none⟩),.bool mk,u]) (hr:bC B w a1 m1 c1 (.slice ka 0 kc)) :
 Calls prog 247 #[.pointer (some ⟨st,0,none⟩),.int .i64 0] w fun e w'=>(∃ a c,e=.returned (.slice a 0 c))/\Below w.heap.size w w':=by
 obtain⟨g,gc,hl,hc,ge,ec,q1,q2,q3,q4,q5,q6,q7,q8,q9⟩:=hr
 have hlk:=D3 (P:=prog) (w:=w.drew) 319 3 381 m1 1 0 0 (.agg #[.int .i64 0,.int .i64 1]) (by kernel_rfl) (by kernel_rfl) q6.drew
 have hw0:IntKind.i64.wrap 0=0:=by kernel_rfl
 have HAt:=Fx (Ff w.drew a1 g gc q1 _ _ _ q4.drew B q5)
 have HS:=Fx hs
 clear hs q1 q2 q3 q4 q5 q6 q7 q8 q9
 go_enter func247,ntmps247
 go_wp2_with fail
 obtain⟨SS,hSS⟩:∃ SS:World->Prop,SS=fun W=>af W st 326 #[.int .i64 0,.int .i64 512,.int .i64 1,.slice none 0 0,.pointer (some ⟨a1,0,none⟩),.map (some m1),.pointer (some ⟨h1,0,none⟩),.slice none 0 0,.pointer (some ⟨a2,0,none⟩),.map (some m2),.pointer (some ⟨c1,0,none⟩),.bool mk,u]:=⟨_,rfl⟩
 have HSC:Hid (∀ W,SS W->W.cell? ⟨st,2,none⟩=some (.int .i64 1)/\W.cell? ⟨st,4,none⟩=some (.pointer (some ⟨a1,0,none⟩))/\W.cell? ⟨st,5,none⟩=some (.map (some m1))/\st<W.heap.size):=Fx (fun W q=>by
  rw[hSS] at q
  have r0:=q
  exact⟨(r0.cell 2).trans rfl,(r0.cell 4).trans rfl,(r0.cell 5).trans rfl,r0.lt⟩)
 have HSI:Hid (∀ W,af W st 326 #[.int .i64 0,.int .i64 512,.int .i64 1,.slice none 0 0,.pointer (some ⟨a1,0,none⟩),.map (some m1),.pointer (some ⟨h1,0,none⟩),.slice none 0 0,.pointer (some ⟨a2,0,none⟩),.map (some m2),.pointer (some ⟨c1,0,none⟩),.bool mk,u]->SS W):=Fx (fun W q=>by rw[hSS];exact q)
 clear hSS
 have HSS:SS w.drew:=HSI.out _ (HS.out.drew)
 refine wp_region_held_drew (by kernel_rfl) HSS (fun _=>?_)
 refine Held.tk 0 8 HSS ?_
 refine Held.tk 1 9 HSS ?_
 refine Held.tk 2 10 HSS ?_
 refine Held.tk 3 11 HSS ?_
 refine Held.tk 4 12 HSS ?_
 refine Held.tk 5 13 HSS ?_
 refine Held.tk 6 14 HSS ?_
 refine Held.tk 7 15 HSS ?_
 refine Held.tk 8 16 HSS ?_
 refine Held.on 9 (fun K hK=>?_)
 go_simp
 refine hK.out _ _ HSS ?_
 clear hK K
 try simp only[FG]
 refine Held.on 10 (fun K hK=>?_)
 go_simp
 refine hK.out _ _ HSS ?_
 clear hK K
 try simp only[FG]
 refine Held.on 11 (fun K hK=>?_)
 go_simp
 refine hK.out _ _ HSS ?_
 clear hK K
 try simp only[FG]
 refine Held.on 12 (fun K hK=>?_)
 have q:=HSC.out _ HSS
 repeat (obtain⟨_,q⟩:=q)
 go_simp
 refine hK.out _ _ HSS ?_
 clear hK K
 clear q
 try simp only[FG]
 refine Held.on 13 (fun K hK=>?_)
 go_simp
 refine hK.out _ _ HSS ?_
 clear hK K
 try simp only[FG]
 refine Held.on 14 (fun K hK=>?_)
 go_simp
 refine hK.out _ _ HSS ?_
 clear hK K
 try simp only[FG]
 refine Held.on 15 (fun K hK=>?_)
 go_simp
 refine HAt.out.mono ?_
 rintro e w1 ⟨rfl,hb⟩
 have HB1:=Fx hb
 clear HSS
 have HSS:=HSI.out w1 (HS.out.drew.below hb HS.out.lt)
 refine hK.out _ _ HSS ?_
 clear hK K hb
 try simp only[FG]
 refine Held.tk 16 7 HSS ?_
 refine Held.tk 17 24 HSS ?_
 refine Held.tk 18 25 HSS ?_
 refine Held.tk 19 5 HSS ?_
 refine Held.tk 20 6 HSS ?_
 refine wpAnyH_done (by kernel_rfl) ?_ _
 clear HSS HSC HSI hlk
 go_wp2_with fail
 refine (iU w1 (.slice ka 0 kc) [] (dG w1 ka kc 3 hkc) (by simp) (by simp) (by simp)).mono ?_
 rintro e w2 ⟨v2,rfl,ho2,hb2⟩
 obtain⟨ra,rc,rfl⟩:=aB ho2
 have HB2:=Fx (dZ (ay (Below.refl w.heap.size w)) (dZ HB1.out hb2))
 clear ho2 hb2
 go_wp2_with fail
 go_ret
 exact⟨⟨_,_,rfl⟩,HB2.out⟩
attribute [local go_sem] Oper.semAt_some
def Do (_:Unit):Array Value:=#[.int .i64 0]
def Grow (w w':World):Prop:=w.heap.size<=w'.heap.size
theorem rZ {w w':World} (h:Below w.heap.size w w'):w.grownBy w' none:=⟨h.os,h.tape,h.output,h.size,fun k hk _=>h.block k hk⟩
theorem qL {β:Type} {B:Nat} {J:β->World->Prop} (h:AbidesFrom B J) {s:β} {w w':World} (hb:Below w.heap.size w w') (hs:J s w):J s w':=h s w w' none hs (rZ hb) (fun r e=>by cases e)
theorem AY (c1:Nat) (w:World):Calls prog 246 #[.pointer (some ⟨c1,0,none⟩),.int .i64 0] w fun e w' =>
 e=.returned (.func (.func 280) #[] #[.pointer (some ⟨w.heap.size,0,none⟩),.pointer (some ⟨w.heap.size+1,0,none⟩)])/\w'=(w.alloc (.cells #[.pointer (some ⟨c1,0,none⟩)] 323)).alloc (.cells #[.int .i64 0] 3):=by
 have hmf:∀ (fn:Fn) (first cap:Array Value) (w:World),(Instr.makeFunc fn first cap).run prog w=.ok (.func fn first cap) w:=fun _ _ _ _=>rfl
 go_enter func246,ntmps246
 go_wp2
 go_ret
 exact⟨rfl,rfl⟩
theorem AC (n:Nat) (hn:1<=n) (l Bs B2 c1 hl hc g gc B:Nat) (J Jx:List Unit->World->Prop) (W:World) (h1:W.cell? ⟨Bs,0,none⟩=some (.pointer (some ⟨c1,0,none⟩))) (h2:W.cell? ⟨B2,0,none⟩=some (.int .i64 0))
 (h:af W c1 377 #[.int .i64 512,.slice (some ⟨hl,0,none⟩) 1 hc,.int .i64 513,.slice (some ⟨g,0,none⟩) 1 gc]) (hhc:1<=hc) (hgc:1<=gc)
 (hlk:W.ownsRow B 371 3 (.slice (some ⟨hl,0,none⟩) 1 hc) 1 [.int .i64 1,.int .i64 (-1),.int .i64 (-1)]) (hen:W.ownsRow B 369 3 (.slice (some ⟨g,0,none⟩) 1 gc) 1 [.int .i64 0,.int .i64 0,.int .i64 1])
 (hJ:AbidesFrom W.heap.size J)
 (hY:∀ pre x W1,J pre W1->pre.length<1->YieldAt Fence.wide (n - 1) prog l (Do x) W1 fun e W'=>(e=.returned (.bool true)/\J (pre++[x]) W'/\Grow W1 W')∨(e=.returned (.bool false)/\Jx (pre++[x]) W'))
 (h0:J [] W) :
 CallsIn Fence.wide n prog 280 #[.func (.yield l) #[] #[],.pointer (some ⟨Bs,0,none⟩),.pointer (some ⟨B2,0,none⟩)] W fun e W'=>(∃ v,e=.returned v)/\((∃ xs,xs=[()]/\J xs W')∨(∃ pre,pre=[()]/\Jx pre W')):=by
 obtain⟨ii,hii,hj0,hj1,hj2⟩:=info_parts Tryz.infoI
 refine callsIn_of_wp func280 rfl trivial ?_ rfl
 simp only[ntmps280,List.size_toArray,List.length_cons,List.length_nil,Nat.reduceAdd,Nat.reduceSub,Array.replicate_succ,Array.replicate_zero,List.push_toArray,List.append_toArray,List.nil_append,List.cons_append]
 have n0:=hen.cellAt 0 (by simp)
 have n2:=hen.cellAt 2 (by simp)
 have l2:=hlk.cellAt 2 (by simp)
 have gl:=World.block_lt_of_cell? _ _ n0
 have hll:=World.block_lt_of_cell? _ _ l2
 simp only[List.getElem?_cons_zero,List.getElem?_cons_succ] at n0 n2 l2 gl hll
 have x1:=h.cell 1
 have xl:=h.lt
 simp only[FF] at x1
 have bl:=World.block_lt_of_cell? _ _ h1
 simp only at bl
 have HL:=Fx (D9 W c1 g gc _ hgc h)
 have HJ:=Fx hJ
 have HY:=Fx hY
 have H0:=Fx h0
 have HC:=Fx (show W.cell? ⟨g,0,none⟩=some (.int .i64 0)/\W.cell? ⟨hl,2,none⟩=some (.int .i64 (-1))/\W.cell? ⟨c1,1,none⟩=some (.slice (some ⟨hl,0,none⟩) 1 hc)/\W.cell? ⟨Bs,0,none⟩=some (.pointer (some ⟨c1,0,none⟩)) from ⟨n0,l2,x1,h1⟩)
 have HLT:=Fx (show g<W.heap.size/\hl<W.heap.size/\c1<W.heap.size/\Bs<W.heap.size from ⟨gl,hll,xl,bl⟩)
 clear h hlk hen hJ hY h0
 gi_wp2_with fail
 refine⟨trivial,?_⟩
 refine (callsIn_wide.2 HL.out).mono ?_
 rintro e w1 ⟨rfl,hw1⟩
 subst hw1
 obtain⟨q,hq⟩:∃ q,w1.heap.size=q:=⟨_,rfl⟩
 gi_wp2_with (gi_at_make;refine wpListIn_make_own _ rfl _ _ 215 rfl q 3 ii (.int .i64 0) 1 underlying215 hii hj0 hj1 _ _ _ 1 rfl rfl rfl ?b2 ?b3 ?b4 ?_)
 case b2=>rw[hj2];omega
 case b3=>unfold maxLen;omega
 case b4=>omega
 intro w2 hown2 hgrow2
 have hb2:Below w1.heap.size w1 w2:=(Below.refl _ w1).grown hgrow2 FA (fun q hq=>by cases hq)
 have c0:=(hb2.cell (p:=⟨g,0,none⟩) gl).trans n0
 try rw[hq] at hown2
 have HO2:=Fx hown2
 have HB2:=Fx hb2
 have gl2:=Nat.lt_of_lt_of_le gl hb2.size
 clear n0 n2 l2 x1 h1 h2 hown2 hgrow2 hb2
 gi_wp2_with fail
 refine wpIn_loop_rounds 2 ?_
 rw[roundsIn_succ]
 gi_wp2_with (gi_at_builtin;refine wpListIn_append_fits _ rfl (.tmp 38) (.tmp 40) 215 rfl q 3 ii 1 underlying215 hii hj1 q 0 1 [] rfl (HO2.out.alloc _) ⟨_,0,none⟩ 1 1 [.int .i64 0] rfl rfl (World.news_of_block (af.new _ _ _)) (by simp [Value.oneCell']) (by decide) ?_)
 intro w3 hown3 hgrow3
 have hb3:Below w1.heap.size w1 w3:=by
  rw[hq]
  have hm:aq (fun k=>k=q) w1 w3:=((aq.ofBelow (F:=fun k=>k=q) HB2.out).alloc _).grown hgrow3 (fun k hk _=>by cases hk;rfl)
  exact hm.below (by rw[hq];exact FA) (fun k e=>by omega)
 have d0:=(hb3.cell (p:=⟨Bs,0,none⟩) HLT.out.2.2.2).trans HC.out.2.2.2
 have d1:=(hb3.cell (p:=⟨c1,1,none⟩) HLT.out.2.2.1).trans HC.out.2.2.1
 have d2:=(hb3.cell (p:=⟨hl,2,none⟩) HLT.out.2.1).trans HC.out.2.1
 have hz:=hb3.size
 have e0:=Nat.lt_of_lt_of_le HLT.out.2.2.2 hz
 have e1:=Nat.lt_of_lt_of_le HLT.out.2.2.1 hz
 have e2:=Nat.lt_of_lt_of_le HLT.out.2.1 hz
 have k0:=hown3.cellAt 0 (by simp)
 have kl:=World.block_lt_of_cell? _ _ k0
 simp only[List.getElem?_cons_zero] at k0 kl
 have HJ3:=Fx (qL HJ.out hb3 H0.out)
 clear hown3 hgrow3 hb3 c0 gl2 hz HO2 HB2
 gi_wp2_with fail
 rw[roundsIn_succ]
 gi_wp2_with fail
 refine wpIn_loop_rounds 2 ?_
 rw[roundsIn_succ]
 obtain⟨fn,tmps,assign,body,hy,hR⟩:=HY.out [] () w3 HJ3.out (by simp)
 unfold Do at hy
 gi_wp2
 refine hR.mono ?_
 clear hR hy
 rintro e W3 (⟨rfl,hJ4,hk4⟩ | ⟨rfl,hJx⟩)
 ·have HJ4:=Fx hJ4
  clear hJ4 hk4
  gi_wp2
  rw[roundsIn_succ]
  gi_wp2
  go_end0
  exact⟨⟨_,rfl⟩,.inl ⟨[()],rfl,HJ4.out⟩⟩
 ·have HJX:=Fx hJx
  clear hJx
  gi_wp2
  refine bodyPost_ret (results_none rfl _ _ _) rfl ?_
  exact⟨⟨_,rfl⟩,.inr ⟨[()],rfl,HJX.out⟩⟩
theorem un (n:Nat) (hn:1<=n) (Bs B2 c1 hl hc g gc B:Nat) (w:World) (h1:w.cell? ⟨Bs,0,none⟩=some (.pointer (some ⟨c1,0,none⟩))) (h2:w.cell? ⟨B2,0,none⟩=some (.int .i64 0))
 (h:af w c1 377 #[.int .i64 512,.slice (some ⟨hl,0,none⟩) 1 hc,.int .i64 513,.slice (some ⟨g,0,none⟩) 1 gc]) (hhc:1<=hc) (hgc:1<=gc)
 (hlk:w.ownsRow B 371 3 (.slice (some ⟨hl,0,none⟩) 1 hc) 1 [.int .i64 1,.int .i64 (-1),.int .i64 (-1)]) (hen:w.ownsRow B 369 3 (.slice (some ⟨g,0,none⟩) 1 gc) 1 [.int .i64 0,.int .i64 0,.int .i64 1]) :
 SeqStopsK Fence.wide n prog 280 #[.pointer (some ⟨Bs,0,none⟩),.pointer (some ⟨B2,0,none⟩)] Do Grow (fun xs=>xs=[()]) (fun pre=>pre=[()]) 1 w :=
 fun l J Jx W hW hJ hJx hY h0 =>
  AC n hn l Bs B2 c1 hl hc g gc B J Jx W ((hW.cell (p:=⟨Bs,0,none⟩) (World.block_lt_of_cell? w _ h1)).trans h1) ((hW.cell (p:=⟨B2,0,none⟩) (World.block_lt_of_cell? w _ h2)).trans h2) (h.below hW h.lt) hhc hgc
   ((aq.ofBelow (F:=fun _=>False) hW).ownsRow hlk (fun _ _ f=>f)) ((aq.ofBelow (F:=fun _=>False) hW).ownsRow hen (fun _ _ f=>f)) hJ hY h0
attribute [local go_sem] Oper.semAt_some
theorem kI {W W':World} {row:Option Nat} {base:Nat} {e:TypeId} {size n:Nat} {v:Value} {xs:List Value} (h:W.ownsRow base e size v n xs) (hg:W.grownBy W' row) (hr:∀ r,row=some r->∃ o:Obj,W.heap[r]? = some o/\o.isCells=false):W'.ownsRow base e size v n xs:=by
 refine h.kept hg ?_
 rcases h.2 with ⟨rfl,_⟩ | ⟨g,cap,cur,rfl,_,hh,_⟩
 ·exact .inl rfl
 ·right
  intro e1
  obtain⟨o,ho,hc⟩:=hr g e1.symm
  rw[hh] at ho
  cases ho
  cases hc
theorem iK {W W':World} {row:Option Nat} {g:Nat} {t:TypeId} {cs:Array Value} (h:af W g t cs) (hg:W.grownBy W' row) (hr:∀ r,row=some r->∃ o:Obj,W.heap[r]? = some o/\o.isCells=false):af W' g t cs:=by
 refine h.grown hg ?_
 intro e1
 obtain⟨o,ho,hc⟩:=hr g e1.symm
 rw[show W.heap[g]? = _ from h] at ho
 cases ho
 cases hc
structure C8 (w:World) (B st a1 m1 h1 a2 m2 c1:Nat) (mk:Bool) (u r:Value) (y o k:Nat) (W:World):Prop where
 s:af W st 326 #[.int .i64 0,.int .i64 512,.int .i64 1,.slice none 0 0,.pointer (some ⟨a1,0,none⟩),.map (some m1),.pointer (some ⟨h1,0,none⟩),.slice none 0 0,.pointer (some ⟨a2,0,none⟩),.map (some m2),.pointer (some ⟨c1,0,none⟩),.bool mk,u]
 r:bC B W a1 m1 c1 r
 y:af W y 183 #[.pointer (some ⟨st,0,none⟩)]
 o:∃ v xs,af W o 45 #[v]/\W.ownsRow w.heap.size 59 1 v k xs/\(k=0->v=.slice none 0 0)
 b:Below w.heap.size w W
theorem C8.other {w W W':World} {B st a1 m1 h1 a2 m2 c1:Nat} {mk:Bool} {u r:Value} {y o k:Nat} {row:Option Nat} (h:C8 w B st a1 m1 h1 a2 m2 c1 mk u r y o k W) (hm:m1<w.heap.size) (hg:W.grownBy W' row) (hr:∀ r,row=some r->w.heap.size<=r/\∃ o:Obj,W.heap[r]? = some o/\o.isCells=false):C8 w B st a1 m1 h1 a2 m2 c1 mk u r y o k W':=by
 have hr':∀ r,row=some r->∃ o:Obj,W.heap[r]? = some o/\o.isCells=false:=fun r e=>(hr r e).2
 obtain⟨v,xs,h3,h4,h5⟩:=h.o
 obtain⟨g,gc,hl,hc,ge,ec,q1,q2,q3,q4,q5,q6,q7,q8,q9⟩:=h.r
 refine⟨iK h.s hg hr',⟨g,gc,hl,hc,ge,ec,q1,q2,q3,iK q4 hg hr',kI q5 hg hr',?_,iK q7 hg hr',kI q8 hg hr',kI q9 hg hr'⟩,iK h.y hg hr',⟨v,xs,iK h3 hg hr',kI h4 hg hr',h5⟩,h.b.grown hg h.b.size (fun k hk=>(hr k hk).1)⟩
 exact (hg.block m1 q6.lt (fun e=>by have:=(hr _ e.symm).1;omega)).trans q6
theorem C8.keep {w W W':World} {B st a1 m1 h1 a2 m2 c1:Nat} {mk:Bool} {u r:Value} {y o k:Nat} (h:C8 w B st a1 m1 h1 a2 m2 c1 mk u r y o k W) (hb:Below W.heap.size W W'):C8 w B st a1 m1 h1 a2 m2 c1 mk u r y o k W':=by
 obtain⟨v,xs,h3,h4,h5⟩:=h.o
 exact⟨h.s.below hb h.s.lt,h.r.keep hb,h.y.below hb h.y.lt,⟨v,xs,h3.below hb h3.lt,(aq.ofBelow (F:=fun _=>False) hb).ownsRow h4 (fun _ _ f=>f),h5⟩,h.b.trans (hb.mono h.b.size)⟩
theorem bC.store {B g:Nat} {t:TypeId} {cs:Array Value} {w w':World} {a1 m1 c1:Nat} {r:Value} (h:bC B w a1 m1 c1 r) (hb:af w g t cs) (ht:t≠394/\t≠418/\t≠377/\t≠371/\t≠369) (hm:aq (fun k=>k=g) w w'):bC B w' a1 m1 c1 r:=by
 obtain⟨g',gc,hl,hc,ge,ec,q1,q2,q3,q4,q5,q6,q7,q8,q9⟩:=h
 exact⟨g',gc,hl,hc,ge,ec,q1,q2,q3,q4.mod hm (q4.ne_ hb ht.1.symm),hm.ownsRow q5 (fun k hk e=>aE q5 hb ht.2.1.symm (by rw[hk,e])),q6.mod hm (q6.ne hb),q7.mod hm (q7.ne_ hb ht.2.2.1.symm),hm.ownsRow q8 (fun k hk e=>aE q8 hb ht.2.2.2.1.symm (by rw[hk,e])),hm.ownsRow q9 (fun k hk e=>aE q9 hb ht.2.2.2.2.symm (by rw[hk,e]))⟩
theorem yZ {W W':World} {g:Nat} {t:TypeId} {cs:Array Value} (hb:af W g t cs) (hm:aq (fun k=>k=g) W W'):KeepsOthers W W':=⟨hm.size,fun k o hk hc=>by
 refine (hm.block k (Array.getElem?_eq_some_iff.1 hk).1 ?_).trans hk
 rintro rfl
 rw[show W.heap[k]? = _ from hb] at hk
 cases hk
 cases hc⟩
theorem Tryz.infoRw:(prog.info? 59).map (fun i=>(i.zero,i.size,i.bytes))=some (some (.slice none 0 0),1,24):=by kernel_rfl
theorem Cz (w:World) (B st a1 m1 h1 a2 m2 c1:Nat) (mk:Bool) (u:Value) (ka:Option Addr) (kc:Nat) (hkc:kc<=maxLen) (hs:af w st 326 #[.int .i64 0,.int .i64 512,.int .i64 1,.slice none 0 0,.pointer (some ⟨a1,0,none⟩),.map (some m1),.pointer (some ⟨h1,0,none⟩),.slice none 0 0,.pointer (some ⟨a2,0,none⟩),.map (some m2),.pointer (some ⟨c1,0,none⟩),.bool mk,u]) (hr:bC B w a1 m1 c1 (.slice ka 0 kc)) :
 Calls prog 185 #[.pointer (some ⟨st,0,none⟩),.int .i64 0] w fun e w'=>(∃ a c,e=.returned (.slice a 1 c))/\Below w.heap.size w w':=by
 obtain⟨ir,hir,hf0,hf1,hf2⟩:=info_parts Tryz.infoRw
 obtain⟨y,hy⟩:∃ y,w.heap.size=y:=⟨_,rfl⟩
 have hml:m1<w.heap.size:=by
  obtain⟨_,_,_,_,_,_,_,_,_,_,_,q6,_⟩:=hr
  exact q6.lt
 obtain⟨W1,hW1⟩:∃ W1,(w.alloc (.cells #[.pointer (some ⟨st,0,none⟩)] 183)).alloc (.cells #[.slice none 0 0] 45)=W1:=⟨_,rfl⟩
 have hz1:W1.heap.size=y+1+1:=by rw[<-hW1,<-hy];simp
 have hb1:Below w.heap.size w W1:=by rw[<-hW1];exact ae (ae Fy _) _
 have hI1:C8 w B st a1 m1 h1 a2 m2 c1 mk u (.slice ka 0 kc) y (y+1) 0 W1:=by
  refine⟨hs.below hb1 hs.lt,hr.keep hb1,?_,⟨.slice none 0 0,[],?_,World.ownsRow_nil _ _ _ _,fun _=>rfl⟩,hb1⟩
  ·rw[<-hW1,<-hy];exact (af.new _ _ _).alloc _
  ·rw[<-hW1,<-hy]
   have:=af.new (w.alloc (.cells #[.pointer (some ⟨st,0,none⟩)] 183)) 45 #[.slice none 0 0]
   rwa [World.size_alloc] at this
 have x10:=hI1.s.cell 10
 have xl:=hI1.s.lt
 have z0:=hI1.y.cell 0
 have zl:=hI1.y.lt
 simp only[FF] at x10 z0
 have HI1:=Fx hI1
 have HY:=Fx hy
 clear hs hr hI1 hb1
 refine (callsIn_wide (n:=9)).1 ?_
 refine callsIn_of_wp_marks func185 rfl trivial ?_ rfl
 simp only[ntmps185,List.size_toArray,List.length_cons,List.length_nil,Nat.reduceAdd,Nat.reduceSub,Array.replicate_succ,Array.replicate_zero,List.push_toArray,List.append_toArray,List.nil_append,List.cons_append]
 gi_wp2_with fail
 refine⟨trivial,?_⟩
 refine (callsIn_wide.2 (AY c1 _)).mono ?_
 rintro e w2 ⟨rfl,hw2⟩
 gi_wp2_with fail
 obtain⟨W0,hW0⟩:∃ W0,(W1.alloc (.cells #[.pointer (some ⟨c1,0,none⟩)] 323)).alloc (.cells #[.int .i64 0] 3)=W0:=⟨_,rfl⟩
 have hz0:W0.heap.size=y+1+1+1+1:=by rw[<-hW0];simp [hz1]
 have hi0:=HI1.out.keep (show Below W1.heap.size W1 W0 by rw[<-hW0];exact ae (ae Fy _) _)
 have hB1:W0.cell? ⟨y+1+1,0,none⟩=some (.pointer (some ⟨c1,0,none⟩)):=by
  rw[<-hW0,<-hz1]
  exact ((af.new W1 323 #[.pointer (some ⟨c1,0,none⟩)]).alloc _).cell 0
 have hB2:W0.cell? ⟨y+1+1+1,0,none⟩=some (.int .i64 0):=by
  have q:=(af.new (W1.alloc (.cells #[.pointer (some ⟨c1,0,none⟩)] 323)) 3 #[.int .i64 0]).cell 0
  rw[World.size_alloc,hz1] at q
  rw[<-hW0]
  exact q
 try rw[hW0]
 have HI0:=Fx hi0
 obtain⟨g,gc,hl,hc,ge,ec,q1,q2,q3,q4,q5,q6,q7,q8,q9⟩:=hi0.r
 refine wpIn_rangeFunc_ownH rfl (by omega) (gf:=280) (lb:=#[.pointer (some ⟨y+1+1,0,none⟩),.pointer (some ⟨y+1+1+1,0,none⟩)]) rfl trivial (enters_of func280 (by kernel_rfl) rfl)
  (un 8 (by omega) (y+1+1) (y+1+1+1) c1 hl hc ge ec B W0 hB1 hB2 q7 q2 q3 q8 q9) (fun h k=>Nat.le_trans h k) (fun W l o o' _ _ _ _=>by simp [Grow]) Fy (fun _=>rfl)
  (fun pre W=>C8 w B st a1 m1 h1 a2 m2 c1 mk u (.slice ka 0 kc) y (y+1) pre.length W)
  (fun _ _ _=>False)
  (fun pre A B' row hs hg hr=>hs.other hml hg (fun r e=>⟨by have:=(hr r e).1;omega,(hr r e).2⟩))
  (fun _ _ _ _ _ hs _ _=>hs)
  HI0.out
  (fun x a' W=>a' = { tmps:=#[.pointer (some ⟨st,0,none⟩),.int .i64 0,.pointer (some ⟨y,0,none⟩),undef,.slice none 0 0,.pointer (some ⟨y+1,0,none⟩),.int .i64 0,.pointer (some ⟨st,0,none⟩),.pointer (some ⟨st,0,none⟩),.pointer (some ⟨st,10,none⟩),.pointer (some ⟨c1,0,none⟩),.int .i64 0,.func (.func 280) #[] #[.pointer (some ⟨y+1+1,0,none⟩),.pointer (some ⟨y+1+1+1,0,none⟩)],.int .i64 0,undef,undef,undef,undef,undef,undef,undef],defers:=[] })
  (fun x a' _ A B row hs hg hr=>hs)
  ?assign ?body ?done ?stop
 case assign =>
  rintro l pre x W K hi hK
  have HI':=Fx hi
  clear hi
  simp only[Do]
  gi_wp2
  exact hK _ _ ((KeepsOthers.refl _).from _) FA HI'.out rfl
 case stop =>
  rintro D c pre W _ _ h _
  exact h.elim
 case body =>
  rintro l pre x a' W hlw ⟨r,hr⟩ hi rfl hlen
  have hk:pre.length=0:=by omega
  have HI:=Fx hi
  obtain⟨v,xs,h3,h4,h5⟩:=hi.o
  have hv:=h5 hk
  subst hv
  have H3:=Fx h3
  have H4:=Fx h4
  have HK0:=Fx hk
  clear h3 h4 h5 hi hr q1 q2 q3 q4 q5 q6 q7 q8 q9 hB1 hB2 HI1 HI0 hW0 hw2 x10 xl z0 zl hW1 hk
  gi_wp2_with fail
  obtain⟨SS,hSS⟩:∃ SS:World->Prop,SS=fun W=>af W y 183 #[.pointer (some ⟨st,0,none⟩)]/\af W (y+1) 45 #[.slice none 0 0]:=⟨_,rfl⟩
  have HSC:Hid (∀ W,SS W->W.cell? ⟨y,0,none⟩=some (.pointer (some ⟨st,0,none⟩))/\W.cell? ⟨(y+1),0,none⟩=some (.slice none 0 0)/\y<W.heap.size/\(y+1)<W.heap.size):=Fx (fun W q=>by
   rw[hSS] at q
   obtain⟨r0,r1⟩:=q
   exact⟨(r0.cell 0).trans rfl,(r1.cell 0).trans rfl,r0.lt,r1.lt⟩)
  have HSI:Hid (∀ W,af W y 183 #[.pointer (some ⟨st,0,none⟩)]/\af W (y+1) 45 #[.slice none 0 0]->SS W):=Fx (fun W q=>by rw[hSS];exact q)
  clear hSS
  have HSS:SS W.drew:=HSI.out _ (⟨HI.out.y.drew,H3.out.drew⟩)
  refine dx.round SS 6 (by kernel_rfl) (by kernel_rfl) ?_
  refine dx.tk 0 14 HSS ?_
  refine dx.tk 1 15 HSS ?_
  refine dx.on 2 (fun K hK=>?_)
  go_simp
  refine hK.out _ _ (fun _=>HSS) ?_
  clear hK K
  try simp only[FG]
  refine dx.on 3 (fun K hK=>?_)
  go_simp
  refine (DN W.drew B st a1 m1 h1 a2 m2 c1 mk u ka kc hkc HI.out.s.drew (HI.out.r.keep (ay Fy))).mono ?_
  rintro e w3 ⟨⟨ra,rc,rfl⟩,hb⟩
  have hb3:Below W.heap.size W w3:=dZ (ay Fy) hb
  have HB3:=Fx hb3
  clear HSS
  have HSS:=HSI.out w3 ⟨HI.out.y.below hb3 HI.out.y.lt,H3.out.below hb3 H3.out.lt⟩
  refine hK.out _ _ (fun _=>HSS) ?_
  clear hK K hb hb3
  try simp only[FG]
  refine dx.on 4 (fun K hK=>?_)
  go_simp
  have hb4:Below W.heap.size W (w3.alloc (.cells #[.slice ra 0 rc] 59)):=ae HB3.out _
  have hn4:=World.news_of_block (af.new w3 59 #[.slice ra 0 rc])
  obtain⟨w4,hw4⟩:∃ w4,w3.alloc (.cells #[.slice ra 0 rc] 59)=w4:=⟨_,rfl⟩
  rw[hw4] at hb4 hn4 ⊢
  have HB4:=Fx hb4
  have HN4:=Fx hn4
  clear HSS
  have HSS:=HSI.out w4 ⟨HI.out.y.below hb4 HI.out.y.lt,H3.out.below hb4 H3.out.lt⟩
  refine hK.out _ _ (fun _=>HSS) ?_
  clear hK K hb4 hn4 hw4 HB3
  try simp only[FG]
  refine dx.on 5 (fun K hK=>?_)
  refine step_append_lies _ rfl (.tmp 14) (.tmp 18) 45 rfl w.heap.size 59 ir (.slice none 0 0) 1 24 underlying45 hir hf0 hf1 hf2 rfl (by decide) (.slice none 0 0) 0 [] rfl (World.ownsRow_nil _ _ _ _) ⟨_,0,none⟩ 1 1 [.slice ra 0 rc] rfl rfl HN4.out (by simp [Value.oneCell']) (by decide) (by unfold maxLen;omega) (by omega) ?c4 _ rfl ?_
  case c4=>exact Nat.le_trans HI.out.b.size HB4.out.size
  intro g5 cap5 w5 hown5 hgrow5 hat5 hlt5
  have hb5:Below W.heap.size W w5:=dZ HB4.out ((Below.refl _ w4).grown hgrow5 FA (fun q hq=>by cases hq))
  have HB5:=Fx hb5
  have HO5:=Fx hown5
  clear HSS
  have HSS:=HSI.out w5 ⟨HI.out.y.below hb5 HI.out.y.lt,H3.out.below hb5 H3.out.lt⟩
  refine hK.out _ _ (fun _=>HSS) ?_
  clear hK K hb5 hown5 hgrow5 hat5 hlt5 HB4 HN4
  simp only[Act.put,List.getElem_toArray,List.getElem_cons_succ,List.getElem_cons_zero,List.setIfInBounds_toArray,List.set_cons_succ,List.set_cons_zero]
  try simp only[FG]
  refine dx.on 6 (fun K hK=>?_)
  have hv5:=H3.out.below HB5.out H3.out.lt
  have x0:=hv5.cell 0
  have xf:=hv5.frozen 0
  have xl:=hv5.lt
  simp only[List.getElem?_toArray,List.getElem?_cons_zero] at x0
  go_simp
  refine hK.out _ _ (fun h=>by simp at h) ?_
  clear hK K x0 xf xl
  try simp only[FG]
  refine dx.done (by kernel_rfl) ?_
  clear HSC HSI HSS
  have hm:aq (fun k=>k=y+1) w5 (w5.setCell ⟨y+1,0,none⟩ (.slice (some ⟨g5,0,none⟩) 1 cap5)):=(aq.refl (fun k=>k=y+1) w5).setCell (p:=⟨y+1,0,none⟩) (fun _=>rfl) _
  have hm0:aq (fun k=>k=y+1) W (w5.setCell ⟨y+1,0,none⟩ (.slice (some ⟨g5,0,none⟩) 1 cap5)):=(aq.ofBelow HB5.out).trans hm (fun _ _ e=>e)
  have hi5:=HI.out.keep HB5.out
  refine⟨(yZ H3.out hm0).from _,hm0.size,?_⟩
  have hk1:(pre++[x]).length=1:=by rw[List.length_append,HK0.out];rfl
  show C8 w B st a1 m1 h1 a2 m2 c1 mk u (.slice ka 0 kc) y (y+1) (pre++[x]).length _
  rw[hk1]
  refine⟨hi5.s.mod hm (hi5.s.ne_ hv5 (by decide)),hi5.r.store hv5 (by decide) hm,hi5.y.mod hm (by omega),⟨.slice (some ⟨g5,0,none⟩) 1 cap5,[.slice ra 0 rc],by simpa using hv5.set_ 0 (.slice (some ⟨g5,0,none⟩) 1 cap5),?_,fun h=>by omega⟩,hi5.b.trans (hm.below (by have:=hi5.b.size;omega) (fun k e=>by omega))⟩
  refine hm.ownsRow HO5.out (fun k hk e=>aE HO5.out hv5 (by decide) (by rw[hk,e]))
 case done =>
  rintro D ys W hD rfl hi hK
  obtain⟨v,xs,h3,h4,_⟩:=hi.o
  obtain⟨va,vc,rfl⟩:=aB h4
  have o0:=h3.cell 0
  have ol:=h3.lt
  simp only[List.getElem?_toArray,List.getElem?_cons_zero] at o0
  have HI:=Fx hi
  have HD:=Fx hK
  clear hi h3 h4 hK
  gi_wp2
  refine⟨by simp,.inl ⟨_,_,rfl,run_takeDeferred HD.out,?_⟩⟩
  have hi2:=HI.out.other hml (grownBy_putObj' W D (.deferred none)) (fun r e=>by cases e;exact⟨by omega,_,HD.out,rfl⟩)
  exact⟨_,results_tmp rfl _ _ _,⟨_,_,rfl⟩,hi2.b⟩
theorem ko (w:World) (B st a1 m1 h1 a2 m2 c1:Nat) (mk:Bool) (u:Value) (ka:Option Addr) (kc:Nat) (hkc:kc<=maxLen) (hs:af w st 326 #[.int .i64 0,.int .i64 512,.int .i64 1,.slice none 0 0,.pointer (some ⟨a1,0,none⟩),.map (some m1),.pointer (some ⟨h1,0,none⟩),.slice none 0 0,.pointer (some ⟨a2,0,none⟩),.map (some m2),.pointer (some ⟨c1,0,none⟩),.bool mk,u]) (hr:bC B w a1 m1 c1 (.slice ka 0 kc)) :
 Calls prog 109 #[.pointer (some ⟨st,0,none⟩)] w fun e w'=>(∃ a c,e=.returned (.slice a 1 c))/\Below w.heap.size w w':=by
 have H:=Fx (Cz w B st a1 m1 h1 a2 m2 c1 mk u ka kc hkc hs hr)
 clear hs hr
 go_enter func109,ntmps109
 go_wp2_with fail
 refine H.out.mono ?_
 rintro e w1 ⟨⟨a,c,rfl⟩,hb⟩
 have HB:=Fx hb
 clear hb
 go_wp2_with fail
 go_ret
 exact⟨⟨_,_,rfl⟩,HB.out⟩
theorem Tryz.infoTb:(prog.info? 47).map (fun i=>(i.zero,i.size,i.bytes))=some (some (.agg #[.string ⟨#[]⟩,.slice none 0 0]),2,40):=by kernel_rfl
theorem oJ {Q:Nat->Prop} (w:World) (bb ss mb:Nat) (d:List aU) (hB:cP w bb ss mb) (hS:bE Q w ss 8 d) :
 Calls prog 43 #[.pointer (some ⟨bb,0,none⟩)] w fun e w'=>∃ a cp,e=.returned (.slice a d.length cp)/\qx w.heap.size w' (.slice a d.length cp) d/\Below w.heap.size w w':=by
 have H:=Fx (nE w ss 8 d hS)
 have x0:=af.cell hB 0
 have xl:=af.lt hB
 simp only[List.getElem?_toArray,List.getElem?_cons_zero] at x0
 clear hB hS
 go_enter func43,ntmps43
 go_wp2_with fail
 refine H.out.mono ?_
 rintro e w1 ⟨a,cp,rfl,hr,hb⟩
 have HR:=Fx hr
 have HB:=Fx hb
 clear hr hb
 go_wp2_with fail
 go_ret
 exact⟨_,_,rfl,HR.out,HB.out⟩
theorem CM {Q:Nat->Prop} (w:World) (B bb ss mb st a1 m1 h1 a2 m2 c1 c:Nat) (mk:Bool) (u:Value) (nm:ByteArray) (ka:Option Addr) (kc:Nat) (hkc:kc<=maxLen) (hB:cP w bb ss mb) (hS:bE Q w ss 8 [⟨nm.data.toList,[]⟩])
 (hM:bF w mb #[{ key:=.string nm,val:=.pointer (some ⟨st,0,none⟩),born:=0 }] c) (hs:af w st 326 #[.int .i64 0,.int .i64 512,.int .i64 1,.slice none 0 0,.pointer (some ⟨a1,0,none⟩),.map (some m1),.pointer (some ⟨h1,0,none⟩),.slice none 0 0,.pointer (some ⟨a2,0,none⟩),.map (some m2),.pointer (some ⟨c1,0,none⟩),.bool mk,u]) (hr:bC B w a1 m1 c1 (.slice ka 0 kc)) :
 Calls prog 44 #[.pointer (some ⟨bb,0,none⟩)] w fun e w'=>∃ g cap ra rc,e=.returned (.slice (some ⟨g,0,none⟩) 1 cap)/\w'.cell? ⟨g,1,none⟩=some (.slice ra 1 rc)/\g<w'.heap.size/\1<=cap/\Below w.heap.size w w':=by
 obtain⟨it,hit,hf0,hf1,hf2⟩:=info_parts Tryz.infoTb
 have HA:=Fx (nE w ss 8 _ hS)
 have HB:=Fx (show af w bb 175 #[.pointer (some ⟨ss,0,none⟩),.int .i64 512,.map (some mb)] from hB)
 have HM:=Fx hM
 have HS:=Fx hs
 have HR:=Fx hr
 have x0:=af.cell hB 0
 have xl:=af.lt hB
 simp only[List.getElem?_toArray,List.getElem?_cons_zero] at x0
 clear hB hS hM hs hr
 go_enter func44,ntmps44
 go_wp2_with fail
 refine HA.out.mono ?_
 rintro e w1 ⟨a,cp,rfl,hrel,hb1⟩
 simp only[List.length_cons,List.length_nil,Nat.zero_add]
 obtain⟨b,off,cap',cv,hv,hc1,hc2,hbl,q0,q1,hrow,_⟩:=(cL.at hrel (by simp) (by simp)).get (i:=0) rfl
 obtain⟨ca,cc,rfl,_,_⟩:=hrow.form
 simp only[List.length_cons,List.length_nil,Nat.zero_add,Nat.zero_mul,Nat.add_zero,Value.slice.injEq,true_and] at hv hc1 q0 q1
 clear hrow
 obtain⟨rfl,rfl⟩:=hv
 have hnm:(⟨nm.data.toList.toArray⟩:ByteArray)=nm:=by simp
 rw[hnm] at q0
 have HB1:=Fx hb1
 clear hb1 hrel HA x0 xl hnm
 go_wp2_with fail
 refine wp_loop_rounds 2 ?_
 rw[rounds_succ]
 obtain⟨x,hx⟩:∃ x,w1.heap.size=x:=⟨_,rfl⟩
 have h2:Below w.heap.size w (w1.alloc (.cells #[.string nm,.slice ca 0 cc] 57)):=ae HB1.out _
 have hX:af (w1.alloc (.cells #[.string nm,.slice ca 0 cc] 57)) x 57 #[.string nm,.slice ca 0 cc]:=hx ▸ af.new _ _ _
 go_upto_region 5 with fail
 obtain⟨w2,hw2⟩:∃ w2,w1.alloc (.cells #[.string nm,.slice ca 0 cc] 57)=w2:=⟨_,rfl⟩
 rw[hw2] at h2 hX ⊢
 have HX2:=Fx hX
 have H2:=Fx h2
 have HB2:=Fx (HB.out.below h2 HB.out.lt)
 have hlk:=Ag (P:=prog) (w:=w2.drew) 173 9 183 mb c 0 nm (.pointer (some ⟨st,0,none⟩)) (by kernel_rfl) (by kernel_rfl) (HM.out.mod (aq.ofBelow (F:=fun _=>False) h2) (fun f=>f)).drew
 clear h2 hX hx hw2 q0 q1 hc1 hc2 hbl HB1
 obtain⟨SS,hSS⟩:∃ SS:World->Prop,SS=fun W=>af W bb 175 #[.pointer (some ⟨ss,0,none⟩),.int .i64 512,.map (some mb)]/\af W x 57 #[.string nm,.slice ca 0 cc]:=⟨_,rfl⟩
 have HSC:Hid (∀ W,SS W->W.cell? ⟨bb,2,none⟩=some (.map (some mb))/\W.cell? ⟨x,0,none⟩=some (.string nm)/\bb<W.heap.size/\x<W.heap.size):=Fx (fun W q=>by
  rw[hSS] at q
  obtain⟨r0,r1⟩:=q
  exact⟨(r0.cell 2).trans rfl,(r1.cell 0).trans rfl,r0.lt,r1.lt⟩)
 have HSI:Hid (∀ W,af W bb 175 #[.pointer (some ⟨ss,0,none⟩),.int .i64 512,.map (some mb)]/\af W x 57 #[.string nm,.slice ca 0 cc]->SS W):=Fx (fun W q=>by rw[hSS];exact q)
 clear hSS
 have HSS:SS w2.drew:=HSI.out _ (⟨HB2.out.drew,HX2.out.drew⟩)
 refine wp_region_held_drew (by kernel_rfl) HSS (fun _=>?_)
 refine Held.tk 0 16 HSS ?_
 refine Held.tk 1 17 HSS ?_
 refine Held.tk 2 18 HSS ?_
 refine Held.tk 3 19 HSS ?_
 refine Held.tk 4 20 HSS ?_
 refine Held.tk 5 21 HSS ?_
 refine Held.tk 6 22 HSS ?_
 refine Held.on 7 (fun K hK=>?_)
 go_simp
 refine hK.out _ _ HSS ?_
 clear hK K
 try simp only[FG]
 refine Held.on 8 (fun K hK=>?_)
 have q:=HSC.out _ HSS
 repeat (obtain⟨_,q⟩:=q)
 go_simp
 refine hK.out _ _ HSS ?_
 clear hK K
 clear q
 try simp only[FG]
 refine Held.on 9 (fun K hK=>?_)
 go_simp
 refine hK.out _ _ HSS ?_
 clear hK K
 try simp only[FG]
 refine Held.on 10 (fun K hK=>?_)
 go_simp
 have b2:Below w.heap.size w w2.drew:=ay H2.out
 refine (ko w2.drew B st a1 m1 h1 a2 m2 c1 mk u ka kc hkc (HS.out.below b2 HS.out.lt) (HR.out.keep b2)).mono ?_
 rintro e w3 ⟨⟨ra,rc,rfl⟩,hb⟩
 have H3:=Fx (dZ b2 hb)
 clear HSS
 have HSS:=HSI.out w3 ⟨HB2.out.drew.below hb HB2.out.lt,HX2.out.drew.below hb HX2.out.lt⟩
 have HB3:=Fx (HB2.out.drew.below hb HB2.out.lt)
 have HX3:=Fx (HX2.out.drew.below hb HX2.out.lt)
 refine hK.out _ _ HSS ?_
 clear hK K hb b2 H2 HB2 HX2 hlk
 try simp only[FG]
 refine Held.on 11 (fun K hK=>?_)
 go_simp
 refine hK.out _ _ HSS ?_
 clear hK K
 try simp only[FG]
 refine Held.on 12 (fun K hK=>?_)
 go_simp
 have hn4:=World.news_of_block (af.new w3 47 #[.string nm,.slice ra 1 rc])
 have b4:Below w3.heap.size w3 (w3.alloc (.cells #[.string nm,.slice ra 1 rc] 47)):=ae Fy _
 obtain⟨w4,hw4⟩:∃ w4,w3.alloc (.cells #[.string nm,.slice ra 1 rc] 47)=w4:=⟨_,rfl⟩
 rw[hw4] at hn4 b4 ⊢
 have HN4:=Fx hn4
 have H4:=Fx (dZ H3.out b4)
 clear HSS
 have HSS:=HSI.out w4 ⟨HB3.out.below b4 HB3.out.lt,HX3.out.below b4 HX3.out.lt⟩
 have HB4:=Fx (HB3.out.below b4 HB3.out.lt)
 have HX4:=Fx (HX3.out.below b4 HX3.out.lt)
 refine hK.out _ _ HSS ?_
 clear hK K hn4 b4 hw4 H3 HB3 HX3
 try simp only[FG]
 refine Held.on 13 (fun K hK=>?_)
 refine step_append_lies _ rfl (.tmp 16) (.tmp 28) 23 rfl w.heap.size 47 it (.agg #[.string ⟨#[]⟩,.slice none 0 0]) 2 40 underlying23 hit hf0 hf1 hf2 rfl (by decide) (.slice none 0 0) 0 [] rfl (World.ownsRow_nil _ _ _ _) ⟨_,0,none⟩ 1 1 [.string nm,.slice ra 1 rc] rfl rfl HN4.out (by simp [Value.oneCell']) (by decide) (by unfold maxLen;omega) (by omega) H4.out.size _ rfl ?_
 intro g5 cap5 w5 hown5 hgrow5 hat5 hlt5
 have b5:Below w4.heap.size w4 w5:=(Below.refl _ w4).grown hgrow5 FA (fun q hq=>by cases hq)
 have H5:=Fx (dZ H4.out b5)
 have HO5:=Fx hown5
 clear HSS
 have HSS:=HSI.out w5 ⟨HB4.out.below b5 HB4.out.lt,HX4.out.below b5 HX4.out.lt⟩
 refine hK.out _ _ HSS ?_
 clear hK K hown5 hgrow5 hat5 hlt5 b5 H4 HB4 HX4 HN4
 simp only[Act.put,List.getElem_toArray,List.getElem_cons_succ,List.getElem_cons_zero,List.setIfInBounds_toArray,List.set_cons_succ,List.set_cons_zero]
 try simp only[FG]
 refine Held.tk 14 3 HSS ?_
 refine wpAnyH_done (by kernel_rfl) ?_ _
 clear HSS HSC HSI
 go_wp2_with fail
 rw[rounds_succ]
 go_wp2_with fail
 go_ret
 have c1':=HO5.out.cellAt 1 (by simp)
 have gl:=HO5.out.lt g5 rfl
 have hcap:1<=cap5:=by
  rcases HO5.out.2 with ⟨e,_⟩ | ⟨g',cap',cur,e,_,_,q,_⟩
  ·cases e
  ·simp only[Value.slice.injEq] at e
   omega
 exact⟨g5,cap5,ra,rc,rfl,by simpa using c1',gl.2,hcap,H5.out⟩
