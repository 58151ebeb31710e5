/- store.Store.rowsOf, Rows of a store with one row; walked (printed by mkstc.py). base.Base.Relations, Tables of a base with one relation of one row; walked (printed by mkstd.py). -/
import Derived.Test.YtgopfpjinohncaaGreatDoorSt9ZV
import Derived.Test.YtgopfpjinohncaaGreatDoorSkgZV
import Derived.Test.YtgopfpjinohncaaGreatDoorSt2ZV
import Derived.Test.YtgopfpjinohncaaGreatDoorCiV
namespace Go.Proofs.YtgopfpjinohncaaGreatDoor
open Go.RowKit
attribute [local go_sem] Oper.semAt_some
set_option linter.unusedVariables false
theorem own_else {W W':World} {row:Option Nat} {base:Nat} {e:TypeId} {size n:Nat} {v:Value} {xs:List Value} (h:W.ownsRow base e size v n xs) (hg:W.grownBy W' row) (hr:∀ r,row=some r->∃ o:Obj,W.heap[r]? = some o/\o.isCells=false):W'.ownsRow base e size v n xs:=by
 refine h.kept hg ?_
 rcases h.2 with ⟨rfl,_⟩ | ⟨g,cap,cur,rfl,_,hh,_⟩
 ·exact .inl rfl
 ·right
  intro e1
  obtain⟨o,ho,hc⟩:=hr g e1.symm
  rw[hh] at ho
  cases ho
  cases hc
theorem blk_else {W W':World} {row:Option Nat} {g:Nat} {t:TypeId} {cs:Array Value} (h:Blk W g t cs) (hg:W.grownBy W' row) (hr:∀ r,row=some r->∃ o:Obj,W.heap[r]? = some o/\o.isCells=false):Blk W' g t cs:=by
 refine h.grown hg ?_
 intro e1
 obtain⟨o,ho,hc⟩:=hr g e1.symm
 rw[show W.heap[g]? = _ from h] at ho
 cases ho
 cases hc
structure RoI (w:World) (B st a1 m1 h1 a2 m2 c1:Nat) (mk:Bool) (u r:Value) (y o k:Nat) (W:World):Prop where
 s:Blk W st 326 #[.int .i64 0,.int .i64 512,.int .i64 1,.slice none 0 0,.pointer (some ⟨a1,0,none⟩),.map (some m1),.pointer (some ⟨h1,0,none⟩),.slice none 0 0,.pointer (some ⟨a2,0,none⟩),.map (some m2),.pointer (some ⟨c1,0,none⟩),.bool mk,u]
 r:HasRow B W a1 m1 c1 r
 y:Blk W y 183 #[.pointer (some ⟨st,0,none⟩)]
 o:∃ v xs,Blk W o 45 #[v]/\W.ownsRow w.heap.size 59 1 v k xs/\(k=0->v=.slice none 0 0)
 b:Below w.heap.size w W
theorem RoI.other {w W W':World} {B st a1 m1 h1 a2 m2 c1:Nat} {mk:Bool} {u r:Value} {y o k:Nat} {row:Option Nat} (h:RoI w B st a1 m1 h1 a2 m2 c1 mk u r y o k W) (hm:m1<w.heap.size) (hg:W.grownBy W' row) (hr:∀ r,row=some r->w.heap.size<=r/\∃ o:Obj,W.heap[r]? = some o/\o.isCells=false):RoI w B st a1 m1 h1 a2 m2 c1 mk u r y o k W':=by
 have hr':∀ r,row=some r->∃ o:Obj,W.heap[r]? = some o/\o.isCells=false:=fun r e=>(hr r e).2
 obtain⟨v,xs,h3,h4,h5⟩:=h.o
 obtain⟨g,gc,hl,hc,ge,ec,q1,q2,q3,q4,q5,q6,q7,q8,q9⟩:=h.r
 refine⟨blk_else h.s hg hr',⟨g,gc,hl,hc,ge,ec,q1,q2,q3,blk_else q4 hg hr',own_else q5 hg hr',?_,blk_else q7 hg hr',own_else q8 hg hr',own_else q9 hg hr'⟩,blk_else h.y hg hr',⟨v,xs,blk_else h3 hg hr',own_else h4 hg hr',h5⟩,h.b.grown hg h.b.size (fun k hk=>(hr k hk).1)⟩
 exact (hg.block m1 q6.lt (fun e=>by have:=(hr _ e.symm).1;omega)).trans q6
theorem RoI.keep {w W W':World} {B st a1 m1 h1 a2 m2 c1:Nat} {mk:Bool} {u r:Value} {y o k:Nat} (h:RoI w B st a1 m1 h1 a2 m2 c1 mk u r y o k W) (hb:Below W.heap.size W W'):RoI w B st a1 m1 h1 a2 m2 c1 mk u r y o k W':=by
 obtain⟨v,xs,h3,h4,h5⟩:=h.o
 exact⟨h.s.below hb h.s.lt,h.r.keep hb,h.y.below hb h.y.lt,⟨v,xs,h3.below hb h3.lt,(Mod.ofBelow (F:=fun _=>False) hb).ownsRow h4 (fun _ _ f=>f),h5⟩,h.b.trans (hb.mono h.b.size)⟩
theorem HasRow.store {B g:Nat} {t:TypeId} {cs:Array Value} {w w':World} {a1 m1 c1:Nat} {r:Value} (h:HasRow B w a1 m1 c1 r) (hb:Blk w g t cs) (ht:t≠394/\t≠418/\t≠377/\t≠371/\t≠369) (hm:Mod (fun k=>k=g) w w'):HasRow B w' a1 m1 c1 r:=by
 obtain⟨g',gc,hl,hc,ge,ec,q1,q2,q3,q4,q5,q6,q7,q8,q9⟩:=h
 exact⟨g',gc,hl,hc,ge,ec,q1,q2,q3,q4.mod hm (q4.ne_ hb ht.1.symm),hm.ownsRow q5 (fun k hk e=>own_blk_ne q5 hb ht.2.1.symm (by rw[hk,e])),q6.mod hm (q6.ne hb),q7.mod hm (q7.ne_ hb ht.2.2.1.symm),hm.ownsRow q8 (fun k hk e=>own_blk_ne q8 hb ht.2.2.2.1.symm (by rw[hk,e])),hm.ownsRow q9 (fun k hk e=>own_blk_ne q9 hb ht.2.2.2.2.symm (by rw[hk,e]))⟩
theorem keeps_mod {W W':World} {g:Nat} {t:TypeId} {cs:Array Value} (hb:Blk W g t cs) (hm:Mod (fun k=>k=g) W W'):KeepsOthers W W':=⟨hm.size,fun k o hk hc=>by
 refine (hm.block k (Array.getElem?_eq_some_iff.1 hk).1 ?_).trans hk
 rintro rfl
 rw[show W.heap[k]? = _ from hb] at hk
 cases hk
 cases hc⟩
theorem Tryz.infoRw:(Tryz.prog.info? 59).map (fun i=>(i.zero,i.size,i.bytes))=some (some (.slice none 0 0),1,24):=by kernel_rfl
set_option maxRecDepth 100000 in
set_option maxHeartbeats 8000000 in
theorem rowsOf0 (w:World) (B st a1 m1 h1 a2 m2 c1:Nat) (mk:Bool) (u:Value) (ka:Option Addr) (kc:Nat) (hkc:kc<=maxLen) (hs:Blk w st 326 #[.int .i64 0,.int .i64 512,.int .i64 1,.slice none 0 0,.pointer (some ⟨a1,0,none⟩),.map (some m1),.pointer (some ⟨h1,0,none⟩),.slice none 0 0,.pointer (some ⟨a2,0,none⟩),.map (some m2),.pointer (some ⟨c1,0,none⟩),.bool mk,u]) (hr:HasRow B w a1 m1 c1 (.slice ka 0 kc)) :
 Calls Tryz.prog 185 #[.pointer (some ⟨st,0,none⟩),.int .i64 0] w fun e w'=>(∃ a c,e=.returned (.slice a 1 c))/\Below w.heap.size w w':=by
 obtain⟨ir,hir,hf0,hf1,hf2⟩:=info_parts Tryz.infoRw
 obtain⟨y,hy⟩:∃ y,w.heap.size=y:=⟨_,rfl⟩
 have hml:m1<w.heap.size:=by
  obtain⟨_,_,_,_,_,_,_,_,_,_,_,q6,_⟩:=hr
  exact q6.lt
 obtain⟨W1,hW1⟩:∃ W1,(w.alloc (.cells #[.pointer (some ⟨st,0,none⟩)] 183)).alloc (.cells #[.slice none 0 0] 45)=W1:=⟨_,rfl⟩
 have hz1:W1.heap.size=y+1+1:=by rw[<-hW1,<-hy];simp
 have hb1:Below w.heap.size w W1:=by rw[<-hW1];exact balloc (balloc (Below.refl _ _) _) _
 have hI1:RoI w B st a1 m1 h1 a2 m2 c1 mk u (.slice ka 0 kc) y (y+1) 0 W1:=by
  refine⟨hs.below hb1 hs.lt,hr.keep hb1,?_,⟨.slice none 0 0,[],?_,World.ownsRow_nil _ _ _ _,fun _=>rfl⟩,hb1⟩
  ·rw[<-hW1,<-hy];exact (Blk.new _ _ _).alloc _
  ·rw[<-hW1,<-hy]
   have:=Blk.new (w.alloc (.cells #[.pointer (some ⟨st,0,none⟩)] 183)) 45 #[.slice none 0 0]
   rwa [World.size_alloc] at this
 have x10:=hI1.s.cell 10
 have xl:=hI1.s.lt
 have z0:=hI1.y.cell 0
 have zl:=hI1.y.lt
 simp only[List.getElem?_toArray,List.getElem?_cons_zero,List.getElem?_cons_succ] at x10 z0
 have HI1:=Lib.hid hI1
 have HY:=Lib.hid hy
 clear hs hr hI1 hb1
 refine (callsIn_wide (n:=9)).1 ?_
 refine callsIn_of_wp_marks Tryz.func185 rfl trivial ?_ rfl
 simp only[Tryz.ntmps185,List.size_toArray,List.length_cons,List.length_nil,Nat.reduceAdd,Nat.reduceSub,Array.replicate_succ,Array.replicate_zero,List.push_toArray,List.append_toArray,List.nil_append,List.cons_append]
 gi_wp2_with fail
 refine⟨trivial,?_⟩
 refine (callsIn_wide.2 (walk_any c1 _)).mono ?_
 rintro e w2 ⟨rfl,hw2⟩
 gi_wp2_with fail
 obtain⟨W0,hW0⟩:∃ W0,(W1.alloc (.cells #[.pointer (some ⟨c1,0,none⟩)] 323)).alloc (.cells #[.int .i64 0] 3)=W0:=⟨_,rfl⟩
 have hz0:W0.heap.size=y+1+1+1+1:=by rw[<-hW0];simp [hz1]
 have hi0:=HI1.out.keep (show Below W1.heap.size W1 W0 by rw[<-hW0];exact balloc (balloc (Below.refl _ _) _) _)
 have hB1:W0.cell? ⟨y+1+1,0,none⟩=some (.pointer (some ⟨c1,0,none⟩)):=by
  rw[<-hW0,<-hz1]
  exact ((Blk.new W1 323 #[.pointer (some ⟨c1,0,none⟩)]).alloc _).cell 0
 have hB2:W0.cell? ⟨y+1+1+1,0,none⟩=some (.int .i64 0):=by
  have q:=(Blk.new (W1.alloc (.cells #[.pointer (some ⟨c1,0,none⟩)] 323)) 3 #[.int .i64 0]).cell 0
  rw[World.size_alloc,hz1] at q
  rw[<-hW0]
  exact q
 try rw[hW0]
 have HI0:=Lib.hid hi0
 obtain⟨g,gc,hl,hc,ge,ec,q1,q2,q3,q4,q5,q6,q7,q8,q9⟩:=hi0.r
 refine wpIn_rangeFunc_ownH rfl (by omega) (gf:=280) (lb:=#[.pointer (some ⟨y+1+1,0,none⟩),.pointer (some ⟨y+1+1+1,0,none⟩)]) rfl trivial (enters_of Tryz.func280 (by kernel_rfl) rfl)
  (walk_stops 8 (by omega) (y+1+1) (y+1+1+1) c1 hl hc ge ec B W0 hB1 hB2 q7 q2 q3 q8 q9) (fun h k=>Nat.le_trans h k) (fun W l o o' _ _ _ _=>by simp [Grow]) (Below.refl _ _) (fun _=>rfl)
  (fun pre W=>RoI w B st a1 m1 h1 a2 m2 c1 mk u (.slice ka 0 kc) y (y+1) pre.length W)
  (fun _ _ _=>False)
  (fun pre A B' row hs hg hr=>hs.other hml hg (fun r e=>⟨by have:=(hr r e).1;omega,(hr r e).2⟩))
  (fun _ _ _ _ _ hs _ _=>hs)
  HI0.out
  (fun x a' W=>a' = { tmps:=#[.pointer (some ⟨st,0,none⟩),.int .i64 0,.pointer (some ⟨y,0,none⟩),undef,.slice none 0 0,.pointer (some ⟨y+1,0,none⟩),.int .i64 0,.pointer (some ⟨st,0,none⟩),.pointer (some ⟨st,0,none⟩),.pointer (some ⟨st,10,none⟩),.pointer (some ⟨c1,0,none⟩),.int .i64 0,.func (.func 280) #[] #[.pointer (some ⟨y+1+1,0,none⟩),.pointer (some ⟨y+1+1+1,0,none⟩)],.int .i64 0,undef,undef,undef,undef,undef,undef,undef],defers:=[] })
  (fun x a' _ A B row hs hg hr=>hs)
  ?assign ?body ?done ?stop
 case assign =>
  rintro l pre x W K hi hK
  have HI':=Lib.hid hi
  clear hi
  simp only[encI]
  gi_wp2
  exact hK _ _ ((KeepsOthers.refl _).from _) (Nat.le_refl _) HI'.out rfl
 case stop =>
  rintro D c pre W _ _ h _
  exact h.elim
 case body =>
  rintro l pre x a' W hlw ⟨r,hr⟩ hi rfl hlen
  have hk:pre.length=0:=by omega
  have HI:=Lib.hid hi
  obtain⟨v,xs,h3,h4,h5⟩:=hi.o
  have hv:=h5 hk
  subst hv
  have H3:=Lib.hid h3
  have H4:=Lib.hid h4
  have HK0:=Lib.hid hk
  clear h3 h4 h5 hi hr q1 q2 q3 q4 q5 q6 q7 q8 q9 hB1 hB2 HI1 HI0 hW0 hw2 x10 xl z0 zl hW1 hk
  gi_wp2_with fail
  obtain⟨SS,hSS⟩:∃ SS:World->Prop,SS=fun W=>Blk W y 183 #[.pointer (some ⟨st,0,none⟩)]/\Blk W (y+1) 45 #[.slice none 0 0]:=⟨_,rfl⟩
  have HSC:Hid (∀ W,SS W->W.cell? ⟨y,0,none⟩=some (.pointer (some ⟨st,0,none⟩))/\W.cell? ⟨(y+1),0,none⟩=some (.slice none 0 0)/\y<W.heap.size/\(y+1)<W.heap.size):=Lib.hid (fun W q=>by
   rw[hSS] at q
   obtain⟨r0,r1⟩:=q
   exact⟨(r0.cell 0).trans rfl,(r1.cell 0).trans rfl,r0.lt,r1.lt⟩)
  have HSI:Hid (∀ W,Blk W y 183 #[.pointer (some ⟨st,0,none⟩)]/\Blk W (y+1) 45 #[.slice none 0 0]->SS W):=Lib.hid (fun W q=>by rw[hSS];exact q)
  clear hSS
  have HSS:SS W.drew:=HSI.out _ (⟨HI.out.y.drew,H3.out.drew⟩)
  refine AnyT.round SS 6 (by kernel_rfl) (by kernel_rfl) ?_
  refine AnyT.tk 0 14 HSS ?_
  refine AnyT.tk 1 15 HSS ?_
  refine AnyT.on 2 (fun K hK=>?_)
  go_simp
  refine hK.out _ _ (fun _=>HSS) ?_
  clear hK K
  try simp only[List.setIfInBounds_toArray,List.set_cons_succ,List.set_cons_zero]
  refine AnyT.on 3 (fun K hK=>?_)
  go_simp
  refine (rowAt0 W.drew B st a1 m1 h1 a2 m2 c1 mk u ka kc hkc HI.out.s.drew (HI.out.r.keep (bdrew (Below.refl _ _)))).mono ?_
  rintro e w3 ⟨⟨ra,rc,rfl⟩,hb⟩
  have hb3:Below W.heap.size W w3:=bt2 (bdrew (Below.refl _ _)) hb
  have HB3:=Lib.hid hb3
  clear HSS
  have HSS:=HSI.out w3 ⟨HI.out.y.below hb3 HI.out.y.lt,H3.out.below hb3 H3.out.lt⟩
  refine hK.out _ _ (fun _=>HSS) ?_
  clear hK K hb hb3
  try simp only[List.setIfInBounds_toArray,List.set_cons_succ,List.set_cons_zero]
  refine AnyT.on 4 (fun K hK=>?_)
  go_simp
  have hb4:Below W.heap.size W (w3.alloc (.cells #[.slice ra 0 rc] 59)):=balloc HB3.out _
  have hn4:=World.news_of_block (Blk.new w3 59 #[.slice ra 0 rc])
  obtain⟨w4,hw4⟩:∃ w4,w3.alloc (.cells #[.slice ra 0 rc] 59)=w4:=⟨_,rfl⟩
  rw[hw4] at hb4 hn4 ⊢
  have HB4:=Lib.hid hb4
  have HN4:=Lib.hid hn4
  clear HSS
  have HSS:=HSI.out w4 ⟨HI.out.y.below hb4 HI.out.y.lt,H3.out.below hb4 H3.out.lt⟩
  refine hK.out _ _ (fun _=>HSS) ?_
  clear hK K hb4 hn4 hw4 HB3
  try simp only[List.setIfInBounds_toArray,List.set_cons_succ,List.set_cons_zero]
  refine AnyT.on 5 (fun K hK=>?_)
  refine step_append_lies _ rfl (.tmp 14) (.tmp 18) 45 rfl w.heap.size 59 ir (.slice none 0 0) 1 24 Tryz.underlying45 hir hf0 hf1 hf2 rfl (by decide) (.slice none 0 0) 0 [] rfl (World.ownsRow_nil _ _ _ _) ⟨_,0,none⟩ 1 1 [.slice ra 0 rc] rfl rfl HN4.out (by simp [Value.oneCell']) (by decide) (by unfold maxLen;omega) (by omega) ?c4 _ rfl ?_
  case c4=>exact Nat.le_trans HI.out.b.size HB4.out.size
  intro g5 cap5 w5 hown5 hgrow5 hat5 hlt5
  have hb5:Below W.heap.size W w5:=bt2 HB4.out ((Below.refl _ w4).grown hgrow5 (Nat.le_refl _) (fun q hq=>by cases hq))
  have HB5:=Lib.hid hb5
  have HO5:=Lib.hid hown5
  clear HSS
  have HSS:=HSI.out w5 ⟨HI.out.y.below hb5 HI.out.y.lt,H3.out.below hb5 H3.out.lt⟩
  refine hK.out _ _ (fun _=>HSS) ?_
  clear hK K hb5 hown5 hgrow5 hat5 hlt5 HB4 HN4
  simp only[Act.put,List.getElem_toArray,List.getElem_cons_succ,List.getElem_cons_zero,List.setIfInBounds_toArray,List.set_cons_succ,List.set_cons_zero]
  try simp only[List.setIfInBounds_toArray,List.set_cons_succ,List.set_cons_zero]
  refine AnyT.on 6 (fun K hK=>?_)
  have hv5:=H3.out.below HB5.out H3.out.lt
  have x0:=hv5.cell 0
  have xf:=hv5.frozen 0
  have xl:=hv5.lt
  simp only[List.getElem?_toArray,List.getElem?_cons_zero] at x0
  go_simp
  refine hK.out _ _ (fun h=>by simp at h) ?_
  clear hK K x0 xf xl
  try simp only[List.setIfInBounds_toArray,List.set_cons_succ,List.set_cons_zero]
  refine AnyT.done (by kernel_rfl) ?_
  clear HSC HSI HSS
  have hm:Mod (fun k=>k=y+1) w5 (w5.setCell ⟨y+1,0,none⟩ (.slice (some ⟨g5,0,none⟩) 1 cap5)):=(Mod.refl (fun k=>k=y+1) w5).setCell (p:=⟨y+1,0,none⟩) (fun _=>rfl) _
  have hm0:Mod (fun k=>k=y+1) W (w5.setCell ⟨y+1,0,none⟩ (.slice (some ⟨g5,0,none⟩) 1 cap5)):=(Mod.ofBelow HB5.out).trans hm (fun _ _ e=>e)
  have hi5:=HI.out.keep HB5.out
  refine⟨(keeps_mod H3.out hm0).from _,hm0.size,?_⟩
  have hk1:(pre++[x]).length=1:=by rw[List.length_append,HK0.out];rfl
  show RoI w B st a1 m1 h1 a2 m2 c1 mk u (.slice ka 0 kc) y (y+1) (pre++[x]).length _
  rw[hk1]
  refine⟨hi5.s.mod hm (hi5.s.ne_ hv5 (by decide)),hi5.r.store hv5 (by decide) hm,hi5.y.mod hm (by omega),⟨.slice (some ⟨g5,0,none⟩) 1 cap5,[.slice ra 0 rc],by simpa using hv5.set_ 0 (.slice (some ⟨g5,0,none⟩) 1 cap5),?_,fun h=>by omega⟩,hi5.b.trans (hm.below (by have:=hi5.b.size;omega) (fun k e=>by omega))⟩
  refine hm.ownsRow HO5.out (fun k hk e=>own_blk_ne HO5.out hv5 (by decide) (by rw[hk,e]))
 case done =>
  rintro D ys W hD rfl hi hK
  obtain⟨v,xs,h3,h4,_⟩:=hi.o
  obtain⟨va,vc,rfl⟩:=own_sl h4
  have o0:=h3.cell 0
  have ol:=h3.lt
  simp only[List.getElem?_toArray,List.getElem?_cons_zero] at o0
  have HI:=Lib.hid hi
  have HD:=Lib.hid hK
  clear hi h3 h4 hK
  gi_wp2
  refine⟨by simp,.inl ⟨_,_,rfl,run_takeDeferred HD.out,?_⟩⟩
  have hi2:=HI.out.other hml (grownBy_putObj' W D (.deferred none)) (fun r e=>by cases e;exact⟨by omega,_,HD.out,rfl⟩)
  exact⟨_,results_tmp rfl _ _ _,⟨_,_,rfl⟩,hi2.b⟩
set_option maxRecDepth 100000 in
set_option maxHeartbeats 2000000 in
theorem rows0 (w:World) (B st a1 m1 h1 a2 m2 c1:Nat) (mk:Bool) (u:Value) (ka:Option Addr) (kc:Nat) (hkc:kc<=maxLen) (hs:Blk w st 326 #[.int .i64 0,.int .i64 512,.int .i64 1,.slice none 0 0,.pointer (some ⟨a1,0,none⟩),.map (some m1),.pointer (some ⟨h1,0,none⟩),.slice none 0 0,.pointer (some ⟨a2,0,none⟩),.map (some m2),.pointer (some ⟨c1,0,none⟩),.bool mk,u]) (hr:HasRow B w a1 m1 c1 (.slice ka 0 kc)) :
 Calls Tryz.prog 109 #[.pointer (some ⟨st,0,none⟩)] w fun e w'=>(∃ a c,e=.returned (.slice a 1 c))/\Below w.heap.size w w':=by
 have H:=Lib.hid (rowsOf0 w B st a1 m1 h1 a2 m2 c1 mk u ka kc hkc hs hr)
 clear hs hr
 go_enter Tryz.func109,Tryz.ntmps109
 go_wp2_with fail
 refine H.out.mono ?_
 rintro e w1 ⟨⟨a,c,rfl⟩,hb⟩
 have HB:=Lib.hid hb
 clear hb
 go_wp2_with fail
 go_ret
 exact⟨⟨_,_,rfl⟩,HB.out⟩
end Go.Proofs.YtgopfpjinohncaaGreatDoor
namespace Go.Proofs.YtgopfpjinohncaaGreatDoor
open Go.RowKit
set_option linter.unusedVariables false
theorem Tryz.infoTb:(Tryz.prog.info? 47).map (fun i=>(i.zero,i.size,i.bytes))=some (some (.agg #[.string ⟨#[]⟩,.slice none 0 0]),2,40):=by kernel_rfl
set_option maxRecDepth 100000 in
set_option maxHeartbeats 2000000 in
theorem relations_any {Q:Nat->Prop} (w:World) (bb ss mb:Nat) (d:List Rln) (hB:BaseB w bb ss mb) (hS:SchAt Q w ss 8 d) :
 Calls Tryz.prog 43 #[.pointer (some ⟨bb,0,none⟩)] w fun e w'=>∃ a cp,e=.returned (.slice a d.length cp)/\RelsNew w.heap.size w' (.slice a d.length cp) d/\Below w.heap.size w w':=by
 have H:=Lib.hid (sall_any w ss 8 d hS)
 have x0:=Blk.cell hB 0
 have xl:=Blk.lt hB
 simp only[List.getElem?_toArray,List.getElem?_cons_zero] at x0
 clear hB hS
 go_enter Tryz.func43,Tryz.ntmps43
 go_wp2_with fail
 refine H.out.mono ?_
 rintro e w1 ⟨a,cp,rfl,hr,hb⟩
 have HR:=Lib.hid hr
 have HB:=Lib.hid hb
 clear hr hb
 go_wp2_with fail
 go_ret
 exact⟨_,_,rfl,HR.out,HB.out⟩
set_option maxRecDepth 100000 in
set_option maxHeartbeats 8000000 in
theorem tables0 {Q:Nat->Prop} (w:World) (B bb ss mb st a1 m1 h1 a2 m2 c1 c:Nat) (mk:Bool) (u:Value) (nm:ByteArray) (ka:Option Addr) (kc:Nat) (hkc:kc<=maxLen) (hB:BaseB w bb ss mb) (hS:SchAt Q w ss 8 [⟨nm.data.toList,[]⟩])
 (hM:MapB w mb #[{ key:=.string nm,val:=.pointer (some ⟨st,0,none⟩),born:=0 }] c) (hs:Blk w st 326 #[.int .i64 0,.int .i64 512,.int .i64 1,.slice none 0 0,.pointer (some ⟨a1,0,none⟩),.map (some m1),.pointer (some ⟨h1,0,none⟩),.slice none 0 0,.pointer (some ⟨a2,0,none⟩),.map (some m2),.pointer (some ⟨c1,0,none⟩),.bool mk,u]) (hr:HasRow B w a1 m1 c1 (.slice ka 0 kc)) :
 Calls Tryz.prog 44 #[.pointer (some ⟨bb,0,none⟩)] w fun e w'=>∃ g cap ra rc,e=.returned (.slice (some ⟨g,0,none⟩) 1 cap)/\w'.cell? ⟨g,1,none⟩=some (.slice ra 1 rc)/\g<w'.heap.size/\1<=cap/\Below w.heap.size w w':=by
 obtain⟨it,hit,hf0,hf1,hf2⟩:=info_parts Tryz.infoTb
 have HA:=Lib.hid (sall_any w ss 8 _ hS)
 have HB:=Lib.hid (show Blk w bb 175 #[.pointer (some ⟨ss,0,none⟩),.int .i64 512,.map (some mb)] from hB)
 have HM:=Lib.hid hM
 have HS:=Lib.hid hs
 have HR:=Lib.hid hr
 have x0:=Blk.cell hB 0
 have xl:=Blk.lt hB
 simp only[List.getElem?_toArray,List.getElem?_cons_zero] at x0
 clear hB hS hM hs hr
 go_enter Tryz.func44,Tryz.ntmps44
 go_wp2_with fail
 refine HA.out.mono ?_
 rintro e w1 ⟨a,cp,rfl,hrel,hb1⟩
 simp only[List.length_cons,List.length_nil,Nat.zero_add]
 obtain⟨b,off,cap',cv,hv,hc1,hc2,hbl,q0,q1,hrow,_⟩:=(RelsOwn.at hrel (by simp) (by simp)).get (i:=0) rfl
 obtain⟨ca,cc,rfl,_,_⟩:=hrow.form
 simp only[List.length_cons,List.length_nil,Nat.zero_add,Nat.zero_mul,Nat.add_zero,Value.slice.injEq,true_and] at hv hc1 q0 q1
 clear hrow
 obtain⟨rfl,rfl⟩:=hv
 have hnm:(⟨nm.data.toList.toArray⟩:ByteArray)=nm:=by simp
 rw[hnm] at q0
 have HB1:=Lib.hid hb1
 clear hb1 hrel HA x0 xl hnm
 go_wp2_with fail
 refine wp_loop_rounds 2 ?_
 rw[rounds_succ]
 obtain⟨x,hx⟩:∃ x,w1.heap.size=x:=⟨_,rfl⟩
 have h2:Below w.heap.size w (w1.alloc (.cells #[.string nm,.slice ca 0 cc] 57)):=balloc HB1.out _
 have hX:Blk (w1.alloc (.cells #[.string nm,.slice ca 0 cc] 57)) x 57 #[.string nm,.slice ca 0 cc]:=hx ▸ Blk.new _ _ _
 go_upto_region 5 with fail
 obtain⟨w2,hw2⟩:∃ w2,w1.alloc (.cells #[.string nm,.slice ca 0 cc] 57)=w2:=⟨_,rfl⟩
 rw[hw2] at h2 hX ⊢
 have HX2:=Lib.hid hX
 have H2:=Lib.hid h2
 have HB2:=Lib.hid (HB.out.below h2 HB.out.lt)
 have hlk:=lk_str (P:=Tryz.prog) (w:=w2.drew) 173 9 183 mb c 0 nm (.pointer (some ⟨st,0,none⟩)) (by kernel_rfl) (by kernel_rfl) (HM.out.mod (Mod.ofBelow (F:=fun _=>False) h2) (fun f=>f)).drew
 clear h2 hX hx hw2 q0 q1 hc1 hc2 hbl HB1
 obtain⟨SS,hSS⟩:∃ SS:World->Prop,SS=fun W=>Blk W bb 175 #[.pointer (some ⟨ss,0,none⟩),.int .i64 512,.map (some mb)]/\Blk W x 57 #[.string nm,.slice ca 0 cc]:=⟨_,rfl⟩
 have HSC:Hid (∀ W,SS W->W.cell? ⟨bb,2,none⟩=some (.map (some mb))/\W.cell? ⟨x,0,none⟩=some (.string nm)/\bb<W.heap.size/\x<W.heap.size):=Lib.hid (fun W q=>by
  rw[hSS] at q
  obtain⟨r0,r1⟩:=q
  exact⟨(r0.cell 2).trans rfl,(r1.cell 0).trans rfl,r0.lt,r1.lt⟩)
 have HSI:Hid (∀ W,Blk W bb 175 #[.pointer (some ⟨ss,0,none⟩),.int .i64 512,.map (some mb)]/\Blk W x 57 #[.string nm,.slice ca 0 cc]->SS W):=Lib.hid (fun W q=>by rw[hSS];exact q)
 clear hSS
 have HSS:SS w2.drew:=HSI.out _ (⟨HB2.out.drew,HX2.out.drew⟩)
 refine wp_region_held_drew (by kernel_rfl) HSS (fun _=>?_)
 refine Held.tk 0 16 HSS ?_
 refine Held.tk 1 17 HSS ?_
 refine Held.tk 2 18 HSS ?_
 refine Held.tk 3 19 HSS ?_
 refine Held.tk 4 20 HSS ?_
 refine Held.tk 5 21 HSS ?_
 refine Held.tk 6 22 HSS ?_
 refine Held.on 7 (fun K hK=>?_)
 go_simp
 refine hK.out _ _ HSS ?_
 clear hK K
 try simp only[List.setIfInBounds_toArray,List.set_cons_succ,List.set_cons_zero]
 refine Held.on 8 (fun K hK=>?_)
 have q:=HSC.out _ HSS
 repeat (obtain⟨_,q⟩:=q)
 go_simp
 refine hK.out _ _ HSS ?_
 clear hK K
 clear q
 try simp only[List.setIfInBounds_toArray,List.set_cons_succ,List.set_cons_zero]
 refine Held.on 9 (fun K hK=>?_)
 go_simp
 refine hK.out _ _ HSS ?_
 clear hK K
 try simp only[List.setIfInBounds_toArray,List.set_cons_succ,List.set_cons_zero]
 refine Held.on 10 (fun K hK=>?_)
 go_simp
 have b2:Below w.heap.size w w2.drew:=bdrew H2.out
 refine (rows0 w2.drew B st a1 m1 h1 a2 m2 c1 mk u ka kc hkc (HS.out.below b2 HS.out.lt) (HR.out.keep b2)).mono ?_
 rintro e w3 ⟨⟨ra,rc,rfl⟩,hb⟩
 have H3:=Lib.hid (bt2 b2 hb)
 clear HSS
 have HSS:=HSI.out w3 ⟨HB2.out.drew.below hb HB2.out.lt,HX2.out.drew.below hb HX2.out.lt⟩
 have HB3:=Lib.hid (HB2.out.drew.below hb HB2.out.lt)
 have HX3:=Lib.hid (HX2.out.drew.below hb HX2.out.lt)
 refine hK.out _ _ HSS ?_
 clear hK K hb b2 H2 HB2 HX2 hlk
 try simp only[List.setIfInBounds_toArray,List.set_cons_succ,List.set_cons_zero]
 refine Held.on 11 (fun K hK=>?_)
 go_simp
 refine hK.out _ _ HSS ?_
 clear hK K
 try simp only[List.setIfInBounds_toArray,List.set_cons_succ,List.set_cons_zero]
 refine Held.on 12 (fun K hK=>?_)
 go_simp
 have hn4:=World.news_of_block (Blk.new w3 47 #[.string nm,.slice ra 1 rc])
 have b4:Below w3.heap.size w3 (w3.alloc (.cells #[.string nm,.slice ra 1 rc] 47)):=balloc (Below.refl _ _) _
 obtain⟨w4,hw4⟩:∃ w4,w3.alloc (.cells #[.string nm,.slice ra 1 rc] 47)=w4:=⟨_,rfl⟩
 rw[hw4] at hn4 b4 ⊢
 have HN4:=Lib.hid hn4
 have H4:=Lib.hid (bt2 H3.out b4)
 clear HSS
 have HSS:=HSI.out w4 ⟨HB3.out.below b4 HB3.out.lt,HX3.out.below b4 HX3.out.lt⟩
 have HB4:=Lib.hid (HB3.out.below b4 HB3.out.lt)
 have HX4:=Lib.hid (HX3.out.below b4 HX3.out.lt)
 refine hK.out _ _ HSS ?_
 clear hK K hn4 b4 hw4 H3 HB3 HX3
 try simp only[List.setIfInBounds_toArray,List.set_cons_succ,List.set_cons_zero]
 refine Held.on 13 (fun K hK=>?_)
 refine step_append_lies _ rfl (.tmp 16) (.tmp 28) 23 rfl w.heap.size 47 it (.agg #[.string ⟨#[]⟩,.slice none 0 0]) 2 40 Tryz.underlying23 hit hf0 hf1 hf2 rfl (by decide) (.slice none 0 0) 0 [] rfl (World.ownsRow_nil _ _ _ _) ⟨_,0,none⟩ 1 1 [.string nm,.slice ra 1 rc] rfl rfl HN4.out (by simp [Value.oneCell']) (by decide) (by unfold maxLen;omega) (by omega) H4.out.size _ rfl ?_
 intro g5 cap5 w5 hown5 hgrow5 hat5 hlt5
 have b5:Below w4.heap.size w4 w5:=(Below.refl _ w4).grown hgrow5 (Nat.le_refl _) (fun q hq=>by cases hq)
 have H5:=Lib.hid (bt2 H4.out b5)
 have HO5:=Lib.hid hown5
 clear HSS
 have HSS:=HSI.out w5 ⟨HB4.out.below b5 HB4.out.lt,HX4.out.below b5 HX4.out.lt⟩
 refine hK.out _ _ HSS ?_
 clear hK K hown5 hgrow5 hat5 hlt5 b5 H4 HB4 HX4 HN4
 simp only[Act.put,List.getElem_toArray,List.getElem_cons_succ,List.getElem_cons_zero,List.setIfInBounds_toArray,List.set_cons_succ,List.set_cons_zero]
 try simp only[List.setIfInBounds_toArray,List.set_cons_succ,List.set_cons_zero]
 refine Held.tk 14 3 HSS ?_
 refine wpAnyH_done (by kernel_rfl) ?_ _
 clear HSS HSC HSI
 go_wp2_with fail
 rw[rounds_succ]
 go_wp2_with fail
 go_ret
 have c1':=HO5.out.cellAt 1 (by simp)
 have gl:=HO5.out.lt g5 rfl
 have hcap:1<=cap5:=by
  rcases HO5.out.2 with ⟨e,_⟩ | ⟨g',cap',cur,e,_,_,q,_⟩
  ·cases e
  ·simp only[Value.slice.injEq] at e
   omega
 exact⟨g5,cap5,ra,rc,rfl,by simpa using c1',gl.2,hcap,H5.out⟩
end Go.Proofs.YtgopfpjinohncaaGreatDoor
