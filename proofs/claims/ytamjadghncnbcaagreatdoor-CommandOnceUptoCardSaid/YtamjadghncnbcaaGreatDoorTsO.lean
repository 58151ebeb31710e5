/- A region that draws its order and ends in stores: loads taken first, as long as the stores have not begun: no program in sight. osierref25.Copy, walked (printed by mkccp.py). -/
import Derived.Test.YtamjadghncnbcaaGreatDoorLaO
import Derived.Test.YtamjadghncnbcaaGreatDoorDwO
import Derived.Test.YtamjadghncnbcaaGreatDoorCqoZO
import Derived.Test.YtamjadghncnbcaaGreatDoorBeO
import Derived.Test.YtamjadghncnbcaaGreatDoorKfO
import Derived.Test.YtamjadghncnbcaaGreatDoorGmO
import Derived.OrdersHeld
import Derived.Deep.RegionHeld
import Derived.Deep.RegionHeld3
namespace Go.Proofs.YtamjadghncnbcaaGreatDoor
open Go.RowKit
set_option linter.unusedVariables false
section
variable {P : Program} {md : Region.Mode} {ops : Array Oper} {Q : Exit -> Act -> World -> Prop} {S : World -> Prop} {st : Nat}
def AnyTill (P:Program) (md:Region.Mode) (ops:Array Oper) (Q:Exit->Act->World->Prop) (S:World->Prop) (st:Nat):Nat->Array Bool->Act->World->Prop
 | 0,l,a,w=>Region.ready md ops l=[]/\Q .normal a w
 | f+1,l,a,w=>(Region.ready md ops l=[]->Q .normal a w)/\∀ i∈Region.ready md ops l,wpOp P ops Q i (fun a' w'=>((l.setIfInBounds i true).getD st true=false->S w')/\AnyTill P md ops Q S st f (l.setIfInBounds i true) a' w') a w
theorem AnyTill.any:∀ (f:Nat) (l:Array Bool) (a:Act) (w:World),AnyTill P md ops Q S st f l a w->wpAny P md ops Q f l a w
 | 0,_,_,_,h=>h
 | f+1,_,_,_,h=>⟨h.1,fun i hi=>wpOp_mono (fun a' w' q=>AnyTill.any f _ a' w' q.2) (h.2 i hi)⟩
def waits (md:Region.Mode) (ops:Array Oper) (st i:Nat):Bool:=match ops[st]? with
 | some o=>o.after.any fun e=>Region.binds md e && e.on == i
 | none=>false
theorem waits_not {i:Nat} {l:Array Bool} (hw:waits md ops st i=true) (hi:l.getD i true=false):st ∉ Region.ready md ops l:=by
 intro hs
 obtain⟨_,o,ho,hall⟩:=mem_ready.1 hs
 unfold waits at hw
 rw[ho] at hw
 obtain⟨e,he,hb⟩:=Array.any_eq_true'.1 hw
 rw[Bool.and_eq_true,beq_iff_eq] at hb
 have h1:=hall e he hb.1
 rw[hb.2] at h1
 rcases Nat.lt_or_ge i l.size with q | q
 ·simp [q] at hi h1
  rw[hi] at h1
  cases h1
 ·simp [Array.getElem?_eq_none q] at h1
theorem AnyTill.first {i:Nat} {oi:Oper} {v:Value} (hi:ops[i]? = some oi) (hs:Region.noSelect ops=true) (hQ:∀ c a w,Q (.panic c) (a.put oi.dst v) w->Q (.panic c) a w) (hst:waits md ops st i=true) :
 ∀ (f:Nat) (l:Array Bool) (a:Act) (w:World),Region.free md ops l i=true->(Region.ready md ops l).contains i=true->l.getD st true=false->YieldsIf P ops S oi v a->S w ->
  AnyTill P md ops Q S st f (l.setIfInBounds i true) (a.put oi.dst v) w->AnyTill P md ops Q S st (f+1) l a w:=by
 have hsel:=Region.noSelect_spec hs
 suffices hg:∀ (f:Nat) (l:Array Bool) (a:Act) (w:World),
  (∀ j oj,ops[j]? = some oj->j≠i->l.getD j true=false->(∀ e∈oj.after,Region.binds md e=true->e.on≠i)->oi.apart ops oj=true) ->
  i∈Region.ready md ops l->l.getD st true=false->YieldsIf P ops S oi v a->S w ->
  AnyTill P md ops Q S st f (l.setIfInBounds i true) (a.put oi.dst v) w->AnyTill P md ops Q S st (f+1) l a w from
  fun f l a w hf hr h1 h2 h3 h4=>hg f l a w (Region.free_spec hi hf) (by simpa using hr) h1 h2 h3 h4
 intro f
 induction f with
 | zero =>
   intro l a w _ hr _ hy hS H
   refine⟨fun h=>(by rw[h] at hr;cases hr),fun j hj=>?_⟩
   by_cases hji:j=i
   ·subst hji;exact hy.wpOp hi hS ⟨fun _=>hS,H⟩
   ·have:=ready_mono hj hji
    rw[H.1] at this
    cases this
 | succ f ih =>
   intro l a w hfree hr hun hy hS H
   have hil:=(mem_ready.1 hr).1
   refine⟨fun h=>(by rw[h] at hr;cases hr),fun j hj=>?_⟩
   by_cases hji:j=i
   ·subst hji;exact hy.wpOp hi hS ⟨fun _=>hS,H⟩
   ·have hjs:j≠st:=fun e=>waits_not hst hil (e ▸ hj)
    have his:i≠st:=fun e=>waits_not hst hil (e ▸ hr)
    obtain⟨hjun,oj,hoj,hall⟩:=mem_ready.1 hj
    have hnot:∀ e∈oj.after,Region.binds md e=true->e.on≠i:=fun e he hb heq=>by
     have h1:=hall e he hb
     rw[heq] at h1
     rcases Nat.lt_or_ge i l.size with h' | h'
     ·simp [h'] at hil h1;rw[hil] at h1;cases h1
     ·simp [Array.getElem?_eq_none h'] at h1
    have h2:=wpOp_putIf hoj (hfree j oj hoj hji hjun hnot) (fun cs b=>hsel i oi cs b hi) (fun cs b=>hsel j oj cs b hoj) hQ hy (H.2 j (ready_mono hj hji))
    refine wpOp_mono (fun a' w' h3=>?_) h2
    have hS':S w':=h3.2.1 (by rw[getD_set_ne true hjs,getD_set_ne true his];exact hun)
    refine⟨fun _=>hS',ih (l.setIfInBounds j true) a' w' (fun k ok hk hki hku hno=>?_) (ready_mono hr (Ne.symm hji)) (by rw[getD_set_ne true hjs];exact hun) h3.1 hS' ?_⟩
    ·refine hfree k ok hk hki ?_ hno
     by_cases hjk:j=k
     ·subst hjk;exact hjun
     ·rw[getD_set_ne true hjk] at hku;exact hku
    ·rw[Array.setIfInBounds_comm _ _ hji]
     exact h3.2.2
theorem AnyTill.take (i d:Nat) {oi:Oper} {v:Value} {f:Nat} {l:Array Bool} {a:Act} {w:World} (hi:ops[i]? = some oi) (hd:oi.dst=some d) (hs:Region.noSelect ops=true) (hst:waits md ops st i=true) (hf:Region.free md ops l i=true) (hr:(Region.ready md ops l).contains i=true) (hun:l.getD st true=false)
 (hQ:∀ c (a:Act) (t:Array Value) w,Q (.panic c) { a with tmps:=t } w->Q (.panic c) a w) (hw:Region.wanted oi (yielded ops a.tmps)=true) (hS:S w) (hy:∀ w,S w->(execOp a.eval oi).run P w=.ok (.value v) w)
 (h:AnyTill P md ops Q S st f (l.setIfInBounds i true) { a with tmps:=a.tmps.setIfInBounds d v } w):AnyTill P md ops Q S st (f+1) l a w:=by
 refine AnyTill.first hi hs (fun c a' w' hh=>?_) hst f l a w hf hr hun (.inl ⟨hw,hy⟩) hS ?_
 ·rw[hd] at hh
  exact hQ c a' _ w' hh
 ·rw[hd]
  exact h
theorem AnyTill.one (i:Nat) {o:Oper} {f:Nat} {l:Array Bool} {a:Act} {w:World} (ho:ops[i]? = some o) (hr:Region.ready md ops l=[i])
 (h:∀ K:Act->World->Prop,Shut (∀ a w,((l.setIfInBounds i true).getD st true=false->S w)->AnyTill P md ops Q S st f (l.setIfInBounds i true) a w->K a w)->if Region.wanted o (yielded ops a.tmps)=true then Oper.wp P o a w K Q else K (a.put o.dst undef) w):AnyTill P md ops Q S st (f+1) l a w:=by
 refine⟨fun h0=>(by rw[hr] at h0;cases h0),fun j hj=>?_⟩
 rw[hr,List.mem_singleton] at hj
 subst hj
 exact wpOp_step ho (fun K hK=>h K (fun a w h1 h2=>hK a w ⟨h1,h2⟩))
theorem AnyTill.done {f:Nat} {l:Array Bool} {a:Act} {w:World} (hr:Region.ready md ops l=[]) (h:Q .normal a w):AnyTill P md ops Q S st f l a w:=by
 cases f with
 | zero=>exact⟨hr,h⟩
 | succ f=>exact⟨fun _=>h,by rw[hr];simp⟩
theorem AnyTill.start (S:World->Prop) (st:Nat) {id:Nat} {a:Act} {w:World} (hm:P.follows .mixedOrders=true) (h:AnyTill P .any ops Q S st ops.size (Array.replicate ops.size false) a w.drew):(Code.region id ops true).wp P Q a w :=
 wp_region_any hm (AnyTill.any _ _ _ _ h)
theorem Held.take (i d:Nat) {oi:Oper} {v:Value} {f:Nat} {l:Array Bool} {a:Act} {w:World} (hi:ops[i]? = some oi) (hd:oi.dst=some d) (hs:Region.noSelect ops=true) (hf:Region.free md ops l i=true) (hr:(Region.ready md ops l).contains i=true)
 (hQ:∀ c (a:Act) (t:Array Value) w,Q (.panic c) { a with tmps:=t } w->Q (.panic c) a w) (hw:Region.wanted oi (yielded ops a.tmps)=true) (hS:S w) (hy:∀ w,S w->(execOp a.eval oi).run P w=.ok (.value v) w)
 (h:wpAnyH P md ops Q S f (l.setIfInBounds i true) { a with tmps:=a.tmps.setIfInBounds d v } w):wpAnyH P md ops Q S (f+1) l a w:=by
 refine wpAnyH_take hi hs hf hr (fun c a' w' hh=>?_) (.inl ⟨hw,hy⟩) hS ?_
 ·rw[hd] at hh
  exact hQ c a' _ w' hh
 ·rw[hd]
  exact h
theorem Held.one (i:Nat) {o:Oper} {f:Nat} {l:Array Bool} {a:Act} {w:World} (ho:ops[i]? = some o) (hr:Region.ready md ops l=[i])
 (h:∀ K:Act->World->Prop,Shut (∀ a w,S w->wpAnyH P md ops Q S f (l.setIfInBounds i true) a w->K a w)->if Region.wanted o (yielded ops a.tmps)=true then Oper.wp P o a w K Q else K (a.put o.dst undef) w):wpAnyH P md ops Q S (f+1) l a w:=by
 refine wpAnyH_all hr (by simp) fun j hj=>?_
 rw[List.mem_singleton] at hj
 subst hj
 exact wpOp_step ho (fun K hK=>h K (fun a w h1 h2=>hK a w ⟨h1,h2⟩))
end
def overlay (cs:Array Value):Nat->List Value->Array Value
 | _,[]=>cs
 | o,v::r=>overlay (cs.setIfInBounds o v) (o+1) r
theorem Blk.over {b:Nat} {t:TypeId}:∀ (vs:List Value) (o:Nat) (w:World) (cs:Array Value),Blk w b t cs->Blk (w.setCells b o vs) b t (overlay cs o vs)
 | [],_,_,_,h=>h
 | v::r,o,w,cs,h=>by
   rw[World.setCells]
   exact Blk.over r (o+1) _ _ (h.set_ o v)
theorem mod_cells {b:Nat}:∀ (vs:List Value) (o:Nat) (w:World),Mod (fun k=>k=b) w (w.setCells b o vs)
 | [],_,w=>Mod.refl _ w
 | v::r,o,w=>by
   rw[World.setCells]
   exact ((Mod.refl (fun k=>k=b) w).setCell (p:=⟨b,o,none⟩) (fun _=>rfl) v).trans (mod_cells r (o+1) _) (fun _ _ h=>h)
theorem size_cells (b:Nat):∀ (vs:List Value) (o:Nat) (w:World),(w.setCells b o vs).heap.size=w.heap.size
 | [],_,_=>rfl
 | v::r,o,w=>by rw[World.setCells,size_cells b r];simp
theorem step_store_part {P:Program} {ops:Array Oper} {op:Oper} {a:Act} {w:World} {K:Act->World->Prop} {Q:Exit->Act->World->Prop} {E:Prop} (hgd:op.guard=none) (ty:TypeId) (x y:Operand) (ho:op.op=.store ty x y)
 (b o:Nat) (t:TypeId) (cs0 cells:Array Value) (hx:a.eval x=.pointer (some ⟨b,o,none⟩)) (hy:a.eval y=.agg cells) (hb:Blk w b t cs0)
 (hi:(P.info? ty).map (·.size)=some cells.size) (hsz:o+cells.size<=cs0.size) (h1:cells.all (·.oneCell')=true)
 (h:∀ w',Blk w' b t (overlay cs0 o cells.toList)->Mod (fun k=>k=b) w w'->w'.heap.size=w.heap.size->K (a.put op.dst undef) w') :
 if Region.wanted op (yielded ops a.tmps)=true then Oper.wp P op a w K Q else E:=by
 have hw:Region.wanted op (yielded ops a.tmps)=true:=by simp [Region.wanted,hgd]
 rw[if_pos hw]
 refine wp_store_mid ty x y ho b o cells hx hy ?_ hi h1 (h _ (hb.over _ _ _ _) (mod_cells _ _ _) (size_cells _ _ _ _))
 intro j hj
 refine⟨?_,hb.frozen _⟩
 rw[hb.cell,Array.getElem?_eq_getElem (by omega)]
 rfl
set_option maxHeartbeats 8000000 in
set_option maxRecDepth 100000 in
theorem copyCmd_any (w:World) (cells:Array Value) (c:Cmd) (h:CmdAt w cells c) (hn1:c.rel.cols.length<=5864062014634) (hn2:c.q.atoms.length<=3518437208780) (hn3:c.b.length<=2932031007402) (hn4:c.row.length<=4398046511104) :
 Calls Tryz.prog 60 #[.agg cells] w fun e w'=>∃ cells',e=.returned (.agg cells')/\(∀ W,MT 0 [39,34] w' W->CmdAt W cells' c)/\Below w.heap.size w w':=by
 obtain⟨cv,hv,av,bv,rv,rfl,a1,a2,a3,a4,a5⟩:=h
 have hts:=a3.small
 have hrs:=a4.rows
 have HR:=Lib.hid (fun W (hW:Below w.heap.size w W)=>copyRel_any W ⟨c.rel.name.toArray⟩ cv c.rel.cols (a1.keep hW) hn1)
 have HQ:=Lib.hid (fun W (hW:Below w.heap.size w W)=>copyO_any W ⟨c.q.name.toArray⟩ hv av c.q.head c.q.atoms (a2.keep hW) (a3.keep hW) hn2)
 have HC:=Lib.hid (fun W (hW:Below w.heap.size w W)=>copyB_any W bv c.b (a4.keep hW) hn3)
 have HV:=Lib.hid (fun W (hW:Below w.heap.size w W)=>copyRow_any W rv c.row (a5.keep hW) hn4)
 have hhl:=a2.len
 obtain⟨o1,l1,rfl,_,_⟩:=a1.form
 obtain⟨o2,l2,rfl,_,_⟩:=a2.form
 obtain⟨o3,l3,rfl,_,_⟩:=a3.form
 obtain⟨o4,l4,rfl,_,_⟩:=a4.form
 obtain⟨o5,l5,rfl,_,_⟩:=a5.form
 obtain⟨FIN,hFIN⟩:∃ FIN:World->Array Value->Prop,FIN=fun w' cells'=>∀ W,MT 0 [39,34] w' W->CmdAt W cells' c:=⟨_,rfl⟩
 have hpost:∀ (w':World) (cells':Array Value),FIN w' cells'->∀ W,MT 0 [39,34] w' W->CmdAt W cells' c:=fun w' cells' q=>by rw[hFIN] at q;exact q
 have hmake:∀ (w':World) (v1 v2 v3 v4 v5:Value),(∀ W,MT 0 [39,34] w' W->RowAt W v1 2 (c.rel.cols.map Col.cells)/\StrsAt W v2 c.q.head/\AtomsAt W v3 c.q.atoms/\ChgsAt W v4 c.b/\RowAt W v5 3 (c.row.map Vl.cells)) ->
  FIN w' #[.int .i64 c.kind,.string ⟨c.rel.name.toArray⟩,v1,.string ⟨c.q.name.toArray⟩,v2,v3,v4,.string ⟨c.nm.toArray⟩,.int .i64 c.id,.int .i64 c.n,v5]:=fun w' v1 v2 v3 v4 v5 qq=>by rw[hFIN];intro W hW;obtain⟨q1,q2,q3,q4,q5⟩:=qq W hW;exact⟨_,_,_,_,_,rfl,q1,q2,q3,q4,q5⟩
 suffices hgoal:Calls Tryz.prog 60 #[.agg #[.int .i64 c.kind,.string ⟨c.rel.name.toArray⟩,.slice o1 (c.rel.cols.map Col.cells).length l1,.string ⟨c.q.name.toArray⟩,.slice o2 c.q.head.length l2,.slice o3 c.q.atoms.length l3,.slice o4 c.b.length l4,.string ⟨c.nm.toArray⟩,.int .i64 c.id,.int .i64 c.n,.slice o5 (c.row.map Vl.cells).length l5]] w fun e w'=>∃ cells',e=.returned (.agg cells')/\FIN w' cells'/\Below w.heap.size w w' from
  hgoal.mono fun e w' ⟨cells',q1,q2,q3⟩=>⟨cells',q1,hpost w' cells' q2,q3⟩
 have HMAKE:=Lib.hid hmake
 have HTS:=Lib.hid hts
 have HRS:=Lib.hid hrs
 have HHL:=Lib.hid hhl
 have HN:=Lib.hid (And.intro hn1 (And.intro hn2 (And.intro hn3 hn4)))
 clear a1 a2 a3 a4 a5 hpost hmake hFIN hts hrs hhl hn1 hn2 hn3 hn4
 obtain⟨ck,⟨rn,cols⟩,⟨qn,hd,al⟩,bb,nm,ci,cn,row⟩:=c
 simp only at *
 generalize (⟨rn.toArray⟩:ByteArray)=x1 at *
 generalize (⟨qn.toArray⟩:ByteArray)=x2 at *
 generalize (⟨nm.toArray⟩:ByteArray)=x3 at *
 generalize hm1:(List.map Col.cells cols).length=n1 at *
 generalize hm2:hd.length=n2 at *
 generalize hm5:(List.map Vl.cells row).length=n5 at *
 generalize hm3:al.length=n3 at *
 generalize hm4:bb.length=n4 at *
 have HM:=Lib.hid (And.intro hm1 (And.intro hm2 (And.intro hm3 (And.intro hm4 hm5))))
 clear hm1 hm2 hm3 hm4 hm5
 have hb0:Below w.heap.size w ((w.alloc (.cells #[.int .i64 ck,.string x1,.slice o1 n1 l1,.string x2,.slice o2 n2 l2,.slice o3 n3 l3,.slice o4 n4 l4,.string x3,.int .i64 ci,.int .i64 cn,.slice o5 n5 l5] 39)).alloc (.cells #[.int .i64 0,.string ⟨#[]⟩,.slice none 0 0,.string ⟨#[]⟩,.slice none 0 0,.slice none 0 0,.slice none 0 0,.string ⟨#[]⟩,.int .i64 0,.int .i64 0,.slice none 0 0] 39)):=balloc (balloc (Below.refl _ _) _) _
 have hz:=blkNew1 w (.cells #[.int .i64 ck,.string x1,.slice o1 n1 l1,.string x2,.slice o2 n2 l2,.slice o3 n3 l3,.slice o4 n4 l4,.string x3,.int .i64 ci,.int .i64 cn,.slice o5 n5 l5] 39) 39 #[.int .i64 0,.string ⟨#[]⟩,.slice none 0 0,.string ⟨#[]⟩,.slice none 0 0,.slice none 0 0,.slice none 0 0,.string ⟨#[]⟩,.int .i64 0,.int .i64 0,.slice none 0 0]
 have hq:=(Blk.new w 39 #[.int .i64 ck,.string x1,.slice o1 n1 l1,.string x2,.slice o2 n2 l2,.slice o3 n3 l3,.slice o4 n4 l4,.string x3,.int .i64 ci,.int .i64 cn,.slice o5 n5 l5]).alloc (.cells #[.int .i64 0,.string ⟨#[]⟩,.slice none 0 0,.string ⟨#[]⟩,.slice none 0 0,.slice none 0 0,.slice none 0 0,.string ⟨#[]⟩,.int .i64 0,.int .i64 0,.slice none 0 0] 39)
 obtain⟨W0,hW0⟩:∃ W0,(w.alloc (.cells #[.int .i64 ck,.string x1,.slice o1 n1 l1,.string x2,.slice o2 n2 l2,.slice o3 n3 l3,.slice o4 n4 l4,.string x3,.int .i64 ci,.int .i64 cn,.slice o5 n5 l5] 39)).alloc (.cells #[.int .i64 0,.string ⟨#[]⟩,.slice none 0 0,.string ⟨#[]⟩,.slice none 0 0,.slice none 0 0,.slice none 0 0,.string ⟨#[]⟩,.int .i64 0,.int .i64 0,.slice none 0 0] 39)=W0:=⟨_,rfl⟩
 have hs0:W0.heap.size=w.heap.size+2:=by rw[<-hW0];simp
 rw[hW0] at hb0 hz hq
 obtain⟨b,hbb⟩:∃ b,w.heap.size=b:=⟨_,rfl⟩
 have HBB:=Lib.hid hbb
 have HW0:=Lib.hid hW0
 rw[hbb] at hz hq hs0
 have HB0:=Lib.hid hb0
 have HZ:=Lib.hid hz
 have HS0:=Lib.hid hs0
 obtain⟨SS,hSS⟩:∃ SS:World->Prop,SS=fun w'=>Blk w' b 39 #[.int .i64 ck,.string x1,.slice o1 n1 l1,.string x2,.slice o2 n2 l2,.slice o3 n3 l3,.slice o4 n4 l4,.string x3,.int .i64 ci,.int .i64 cn,.slice o5 n5 l5]/\Below W0.heap.size W0 w':=⟨_,rfl⟩
 have hsd:SS W0.drew:=by rw[hSS];exact⟨hq.drew,bdrew (Below.refl _ _)⟩
 have hsk:∀ W W',SS W->Below W.heap.size W W'->SS W':=fun W W' q hb=>by
  rw[hSS] at q ⊢
  exact⟨q.1.below hb q.1.lt,q.2.trans (hb.mono q.2.size)⟩
 have hsb:∀ W,SS W->Below w.heap.size w W:=fun W q=>by
  rw[hSS] at q
  exact hb0.trans (q.2.mono hb0.size)
 have hsq:∀ W,SS W->Blk W b 39 #[.int .i64 ck,.string x1,.slice o1 n1 l1,.string x2,.slice o2 n2 l2,.slice o3 n3 l3,.slice o4 n4 l4,.string x3,.int .i64 ci,.int .i64 cn,.slice o5 n5 l5]:=fun W q=>by rw[hSS] at q;exact q.1
 have hsw:∀ W,SS W->Below W0.heap.size W0 W:=fun W q=>by rw[hSS] at q;exact q.2
 have HSD:=Lib.hid hsd
 have HSK:=Lib.hid hsk
 have HSB:=Lib.hid hsb
 have HSQ:=Lib.hid hsq
 have HSW:=Lib.hid hsw
 clear hb0 hz hq hSS hsd hsk hsb hsq hsw hs0
 clear hW0 hbb
 go_enter Tryz.func60,Tryz.ntmps60
 go_upto_region 1 with fail
 rw[HW0.out,HBB.out]
 refine AnyTill.start SS 13 (by kernel_rfl) ?_
 have HSS:SS W0.drew:=HSD.out
 refine AnyTill.take 0 3 (v:=?_) rfl rfl (by kernel_rfl) (by kernel_rfl) (by kernel_rfl) (by kernel_rfl) (by kernel_rfl) (fun _ _ _ _ h=>h) (by kernel_rfl) HSS ?_ ?_
 rotate_left
 ·intro u _
  go_simp
  try with_reducible rfl
 try simp only[List.setIfInBounds_toArray,List.set_cons_succ,List.set_cons_zero]
 refine AnyTill.take 1 4 (v:=?_) rfl rfl (by kernel_rfl) (by kernel_rfl) (by kernel_rfl) (by kernel_rfl) (by kernel_rfl) (fun _ _ _ _ h=>h) (by kernel_rfl) HSS ?_ ?_
 rotate_left
 ·intro u hu
  have hq:=HSQ.out u hu
  have k1:=hq.cell 1
  have k2:=hq.cell 2
  simp only[List.getElem?_toArray,List.getElem?_cons_zero,List.getElem?_cons_succ] at k1 k2
  have kl:=hq.lt
  clear hq hu
  go_simp
  try with_reducible rfl
 try simp only[List.setIfInBounds_toArray,List.set_cons_succ,List.set_cons_zero]
 refine AnyTill.take 3 6 (v:=?_) rfl rfl (by kernel_rfl) (by kernel_rfl) (by kernel_rfl) (by kernel_rfl) (by kernel_rfl) (fun _ _ _ _ h=>h) (by kernel_rfl) HSS ?_ ?_
 rotate_left
 ·intro u _
  go_simp
  try with_reducible rfl
 try simp only[List.setIfInBounds_toArray,List.set_cons_succ,List.set_cons_zero]
 refine AnyTill.take 4 7 (v:=?_) rfl rfl (by kernel_rfl) (by kernel_rfl) (by kernel_rfl) (by kernel_rfl) (by kernel_rfl) (fun _ _ _ _ h=>h) (by kernel_rfl) HSS ?_ ?_
 rotate_left
 ·intro u hu
  have hq:=HSQ.out u hu
  have k3:=hq.cell 3
  have k4:=hq.cell 4
  have k5:=hq.cell 5
  simp only[List.getElem?_toArray,List.getElem?_cons_zero,List.getElem?_cons_succ] at k3 k4 k5
  have kl:=hq.lt
  clear hq hu
  go_simp
  try with_reducible rfl
 try simp only[List.setIfInBounds_toArray,List.set_cons_succ,List.set_cons_zero]
 refine AnyTill.take 6 9 (v:=?_) rfl rfl (by kernel_rfl) (by kernel_rfl) (by kernel_rfl) (by kernel_rfl) (by kernel_rfl) (fun _ _ _ _ h=>h) (by kernel_rfl) HSS ?_ ?_
 rotate_left
 ·intro u _
  go_simp
  try with_reducible rfl
 try simp only[List.setIfInBounds_toArray,List.set_cons_succ,List.set_cons_zero]
 refine AnyTill.take 7 10 (v:=?_) rfl rfl (by kernel_rfl) (by kernel_rfl) (by kernel_rfl) (by kernel_rfl) (by kernel_rfl) (fun _ _ _ _ h=>h) (by kernel_rfl) HSS ?_ ?_
 rotate_left
 ·intro u hu
  have hq:=HSQ.out u hu
  have k6:=hq.cell 6
  simp only[List.getElem?_toArray,List.getElem?_cons_zero,List.getElem?_cons_succ] at k6
  have kl:=hq.lt
  clear hq hu
  go_simp
  try with_reducible rfl
 try simp only[List.setIfInBounds_toArray,List.set_cons_succ,List.set_cons_zero]
 refine AnyTill.take 9 12 (v:=?_) rfl rfl (by kernel_rfl) (by kernel_rfl) (by kernel_rfl) (by kernel_rfl) (by kernel_rfl) (fun _ _ _ _ h=>h) (by kernel_rfl) HSS ?_ ?_
 rotate_left
 ·intro u _
  go_simp
  try with_reducible rfl
 try simp only[List.setIfInBounds_toArray,List.set_cons_succ,List.set_cons_zero]
 refine AnyTill.take 10 13 (v:=?_) rfl rfl (by kernel_rfl) (by kernel_rfl) (by kernel_rfl) (by kernel_rfl) (by kernel_rfl) (fun _ _ _ _ h=>h) (by kernel_rfl) HSS ?_ ?_
 rotate_left
 ·intro u hu
  have hq:=HSQ.out u hu
  have k10:=hq.cell 10
  simp only[List.getElem?_toArray,List.getElem?_cons_zero,List.getElem?_cons_succ] at k10
  have kl:=hq.lt
  clear hq hu
  go_simp
  try with_reducible rfl
 try simp only[List.setIfInBounds_toArray,List.set_cons_succ,List.set_cons_zero]
 refine AnyTill.one 2 rfl (by kernel_rfl) (fun K hK=>?_)
 go_simp
 refine (HR.out _ (HSB.out _ HSS)).mono ?_
 rintro e w1 ⟨r1,rfl,p1,hw1⟩
 have HSSw1:=HSK.out _ _ HSS hw1
 have hszw1:=hw1.size
 refine hK.out _ _ (fun _=>HSSw1) ?_
 clear hK K HSS
 rename SS w1=>HSS
 try simp only[List.setIfInBounds_toArray,List.set_cons_succ,List.set_cons_zero]
 refine AnyTill.take 12 15 (v:=?_) rfl rfl (by kernel_rfl) (by kernel_rfl) (by kernel_rfl) (by kernel_rfl) (by kernel_rfl) (fun _ _ _ _ h=>h) (by kernel_rfl) HSS ?_ ?_
 rotate_left
 ·intro u _
  go_simp
  try with_reducible rfl
 try simp only[List.setIfInBounds_toArray,List.set_cons_succ,List.set_cons_zero]
 refine AnyTill.one 5 rfl (by kernel_rfl) (fun K hK=>?_)
 go_simp
 refine (HQ.out _ (HSB.out _ HSS)).mono ?_
 rintro e w2 ⟨r2,r3,rows,rfl,p2,p3,p4,_,hw2⟩
 have HSSw2:=HSK.out _ _ HSS hw2
 have hszw2:=hw2.size
 have p1:=(MT.ofBelow (B:=b) (Ts:=[39]) hw2).ownsRow p1 (by decide)
 refine hK.out _ _ (fun _=>HSSw2) ?_
 clear hK K HSS
 rename SS w2=>HSS
 try simp only[List.setIfInBounds_toArray,List.set_cons_succ,List.set_cons_zero]
 refine AnyTill.one 8 rfl (by kernel_rfl) (fun K hK=>?_)
 go_simp
 refine (HC.out _ (HSB.out _ HSS)).mono ?_
 rintro e w3 ⟨r4,rfl,p5,hw3⟩
 have HSSw3:=HSK.out _ _ HSS hw3
 have hszw3:=hw3.size
 have m3:=MT.ofBelow (B:=b) (Ts:=[39]) hw3
 have p1:=m3.ownsRow p1 (by decide)
 have p2:=m3.ownsRow p2 (by decide)
 have p3:=m3.ownsRow p3 (by decide)
 have p4:=p4.mono fun x y q=>AtmO.mt q m3 (by decide)
 refine hK.out _ _ (fun _=>HSSw3) ?_
 clear hK K HSS
 rename SS w3=>HSS
 try simp only[List.setIfInBounds_toArray,List.set_cons_succ,List.set_cons_zero]
 refine AnyTill.one 11 rfl (by kernel_rfl) (fun K hK=>?_)
 go_simp
 refine (HV.out _ (HSB.out _ HSS)).mono ?_
 rintro e w4 ⟨r5,rfl,p6,hw4⟩
 have HSSw4:=HSK.out _ _ HSS hw4
 have hszw4:=hw4.size
 have m4:=MT.ofBelow (B:=b) (Ts:=[39]) hw4
 have p1:=m4.ownsRow p1 (by decide)
 have p2:=m4.ownsRow p2 (by decide)
 have p3:=m4.ownsRow p3 (by decide)
 have p4:=p4.mono fun x y q=>AtmO.mt q m4 (by decide)
 have p5:=p5.mt m4 (by decide) (by decide)
 refine hK.out _ _ (fun _=>HSSw4) ?_
 clear hK K HSS
 rename SS w4=>HSS
 try simp only[List.setIfInBounds_toArray,List.set_cons_succ,List.set_cons_zero]
 have HQ4:=HSQ.out _ HSS
 have HB4:=HSW.out _ HSS
 have HZ4:=Lib.hid (HZ.out.below HB4 HZ.out.lt)
 have HBB4:=Lib.hid (HSB.out _ HSS)
 obtain⟨i1,j1,rfl⟩:=own_sl p1
 obtain⟨i2,j2,rfl⟩:=own_sl p2
 obtain⟨i3,j3,rfl⟩:=own_sl p3
 obtain⟨rws4,p5a,p5b⟩:=p5
 obtain⟨i4,j4,rfl⟩:=own_sl p5a
 obtain⟨i5,j5,rfl⟩:=own_sl p6
 have HP:=Lib.hid (And.intro p1 (And.intro p2 (And.intro p3 (And.intro p4 (And.intro p5a (And.intro p5b p6))))))
 clear p1 p2 p3 p4 p5a p5b p6
 refine AnyTill.one 13 rfl (by kernel_rfl) (fun K hK=>?_)
 refine step_store_part rfl 25 _ _ rfl b 1 39 _ _ rfl rfl HQ4 (by kernel_rfl) (by simp) (by simp [Value.oneCell']) ?_
 intro w5 hw5 hmw5 hzw5
 simp only[overlay,List.setIfInBounds_toArray,List.set_cons_succ,List.set_cons_zero] at hw5
 refine hK.out _ _ (fun e=>nomatch (e.symm.trans (by kernel_rfl:_=true))) ?_
 clear hK K
 try simp only[List.setIfInBounds_toArray,List.set_cons_succ,List.set_cons_zero]
 refine AnyTill.one 14 rfl (by kernel_rfl) (fun K hK=>?_)
 go_simp
 refine hK.out _ _ (fun e=>nomatch (e.symm.trans (by kernel_rfl:_=true))) ?_
 clear hK K
 try simp only[List.setIfInBounds_toArray,List.set_cons_succ,List.set_cons_zero]
 refine AnyTill.one 15 rfl (by kernel_rfl) (fun K hK=>?_)
 refine step_store_part rfl 29 _ _ rfl b 3 39 _ _ rfl rfl hw5 (by kernel_rfl) (by simp) (by simp [Value.oneCell']) ?_
 intro w6 hw6 hmw6 hzw6
 simp only[overlay,List.setIfInBounds_toArray,List.set_cons_succ,List.set_cons_zero] at hw6
 refine hK.out _ _ (fun e=>nomatch (e.symm.trans (by kernel_rfl:_=true))) ?_
 clear hK K
 try simp only[List.setIfInBounds_toArray,List.set_cons_succ,List.set_cons_zero]
 refine AnyTill.one 16 rfl (by kernel_rfl) (fun K hK=>?_)
 go_simp
 refine hK.out _ _ (fun e=>nomatch (e.symm.trans (by kernel_rfl:_=true))) ?_
 clear hK K
 try simp only[List.setIfInBounds_toArray,List.set_cons_succ,List.set_cons_zero]
 refine AnyTill.one 17 rfl (by kernel_rfl) (fun K hK=>?_)
 have kx:=hw6.cell 6
 have fx:=hw6.frozen 6
 have lx:=hw6.lt
 simp only[List.getElem?_toArray,List.getElem?_cons_zero,List.getElem?_cons_succ] at kx
 have hw7:=hw6.set_ 6 (.slice i4 bb.length j4)
 have hmw7:Mod (fun k=>k=b) w6 (w6.setCell ⟨b,6,none⟩ (.slice i4 bb.length j4)):=(Mod.refl (fun k=>k=b) _).setCell (p:=⟨b,6,none⟩) (fun _=>rfl) _
 simp only[List.setIfInBounds_toArray,List.set_cons_succ,List.set_cons_zero] at hw7
 obtain⟨w7,ew7⟩:∃ w7,w6.setCell ⟨b,6,none⟩ (.slice i4 bb.length j4)=w7:=⟨_,rfl⟩
 rw[ew7] at hw7 hmw7
 go_simp
 try rw[ew7]
 clear ew7 kx fx lx
 refine hK.out _ _ (fun e=>nomatch (e.symm.trans (by kernel_rfl:_=true))) ?_
 clear hK K
 try simp only[List.setIfInBounds_toArray,List.set_cons_succ,List.set_cons_zero]
 refine AnyTill.one 18 rfl (by kernel_rfl) (fun K hK=>?_)
 go_simp
 refine hK.out _ _ (fun e=>nomatch (e.symm.trans (by kernel_rfl:_=true))) ?_
 clear hK K
 try simp only[List.setIfInBounds_toArray,List.set_cons_succ,List.set_cons_zero]
 refine AnyTill.one 19 rfl (by kernel_rfl) (fun K hK=>?_)
 have kx:=hw7.cell 10
 have fx:=hw7.frozen 10
 have lx:=hw7.lt
 simp only[List.getElem?_toArray,List.getElem?_cons_zero,List.getElem?_cons_succ] at kx
 have hw8:=hw7.set_ 10 (.slice i5 row.length j5)
 have hmw8:Mod (fun k=>k=b) w7 (w7.setCell ⟨b,10,none⟩ (.slice i5 row.length j5)):=(Mod.refl (fun k=>k=b) _).setCell (p:=⟨b,10,none⟩) (fun _=>rfl) _
 simp only[List.setIfInBounds_toArray,List.set_cons_succ,List.set_cons_zero] at hw8
 obtain⟨w8,ew8⟩:∃ w8,w7.setCell ⟨b,10,none⟩ (.slice i5 row.length j5)=w8:=⟨_,rfl⟩
 rw[ew8] at hw8 hmw8
 go_simp
 try rw[ew8]
 clear ew8 kx fx lx
 refine hK.out _ _ (fun e=>nomatch (e.symm.trans (by kernel_rfl:_=true))) ?_
 clear hK K
 try simp only[List.setIfInBounds_toArray,List.set_cons_succ,List.set_cons_zero]
 refine AnyTill.done (by kernel_rfl) ?_
 have hm48:=((hmw5.trans hmw6 (fun _ _ q=>q)).trans hmw7 (fun _ _ q=>q)).trans hmw8 (fun _ _ q=>q)
 have hz8:=HZ4.out.mod hm48 (by omega)
 have m48:=MT.ofMod (B:=b) (Ts:=[39]) hm48 HQ4 (by simp) (Nat.le_refl _)
 clear hmw5 hmw6 hmw7 hmw8 hm48 hw5 hw6 hw7
 have k0:=hw8.cell 0
 have k1:=hw8.cell 1
 have k2:=hw8.cell 2
 have k3:=hw8.cell 3
 have k4:=hw8.cell 4
 have k5:=hw8.cell 5
 have k6:=hw8.cell 6
 have k7:=hw8.cell 7
 have k8:=hw8.cell 8
 have k9:=hw8.cell 9
 have k10:=hw8.cell 10
 have kl:=hw8.lt
 simp only[List.getElem?_toArray,List.getElem?_cons_zero,List.getElem?_cons_succ] at k0 k1 k2 k3 k4 k5 k6 k7 k8 k9 k10
 have HZ8:=Lib.hid hz8
 have M48:=Lib.hid m48
 clear hz8 m48 HQ4 HB4 hw8
 go_wp2_with (refine wpList_store_blk rfl 39 _ _ rfl (b+1) 39 _ _ rfl rfl HZ8.out (by kernel_rfl) rfl (by simp [Value.oneCell']) ?_)
 intro w9 hb9 hm9 hz9
 clear k0 k1 k2 k3 k4 k5 k6 k7 k8 k9 k10 kl
 have r0:=hb9.cell 0
 have r1:=hb9.cell 1
 have r2:=hb9.cell 2
 have r3:=hb9.cell 3
 have r4:=hb9.cell 4
 have r5:=hb9.cell 5
 have r6:=hb9.cell 6
 have r7:=hb9.cell 7
 have r8:=hb9.cell 8
 have r9:=hb9.cell 9
 have r10:=hb9.cell 10
 simp only[List.getElem?_toArray,List.getElem?_cons_zero,List.getElem?_cons_succ] at r0 r1 r2 r3 r4 r5 r6 r7 r8 r9 r10
 have m9:=M48.out.trans (MT.ofMod (B:=b) (Ts:=[39]) hm9 HZ8.out (by simp) (by omega))
 obtain⟨p1,p2,p3,p4,p5a,p5b,p6⟩:=HP.out
 have q1:=m9.ownsRow p1 (by decide)
 have q2:=m9.ownsRow p2 (by decide)
 have q3:=m9.ownsRow p3 (by decide)
 have q4:=p4.mono fun x y q=>AtmO.mt q m9 (by decide)
 have q5:ChgsOwn _ w9 (.slice i4 bb.length j4) bb:=ChgsOwn.mt ⟨rws4,p5a,p5b⟩ m9 (by decide) (by decide)
 have q6:=m9.ownsRow p6 (by decide)
 have hbw:Below w.heap.size w w9:=by
  have h1:=m9.below (by rw[<-HBB.out];exact HBB4.out.size)
  rw[<-HBB.out] at h1
  exact HBB4.out.trans h1
 have FN:=HMAKE.out w9 (.slice i1 cols.length j1) (.slice i2 hd.length j2) (.slice i3 al.length j3) (.slice i4 bb.length j4) (.slice i5 row.length j5) (fun W hW =>
  ⟨RowAt.ofOwn (hW.ownsRow q1 (by decide)) (by simp) (by intro x hx;obtain⟨s,_,rfl⟩:=List.mem_map.1 hx;rfl) (by have:=HN.out.1;simp;omega),
  OwnS.strs (hW.ownsRow q2 (by decide)) (by have:=HHL.out;have:=HM.out.2.1;omega),atomsRowG (hW.ownsRow q3 (by decide)) rfl (q4.mono fun x y q=>AtmO.mt q hW (by decide)) (by have:=HN.out.2.1;have:=HM.out.2.2.1;omega) HTS.out,(q5.mt hW (by decide) (by decide)).at (by have:=HN.out.2.2.1;have:=HM.out.2.2.2.1;omega) HRS.out,
  RowAt.ofOwn (hW.ownsRow q6 (by decide)) (by simp) (by intro x hx;obtain⟨s,_,rfl⟩:=List.mem_map.1 hx;rfl) (by have:=HN.out.2.2.2;simp;omega)⟩)
 clear p1 p2 p3 p4 p5a p5b p6 q1 q2 q3 q4 q5 q6 m9 hb9 hm9 hz9
 go_wp2_with fail
 refine bodyPost_ret (v:=.agg #[.int .i64 ck,.string x1,.slice i1 cols.length j1,.string x2,.slice i2 hd.length j2,.slice i3 al.length j3,.slice i4 bb.length j4,.string x3,.int .i64 ci,.int .i64 cn,.slice i5 row.length j5]) (by simp [results,Tryz.results60,go_sem, *]) rfl ⟨_,rfl,FN,hbw⟩
set_option maxHeartbeats 8000000 in
set_option maxRecDepth 100000 in
theorem copied_any (w:World) (cells:Array Value) (c:Cmd) (h:CmdAt w cells c) (hn1:c.rel.cols.length<=5864062014634) (hn2:c.q.atoms.length<=3518437208780) (hn3:c.b.length<=2932031007402) (hn4:c.row.length<=4398046511104) :
 Calls Tryz.prog 18 #[.agg cells] w fun e w'=>∃ cells',e=.returned (.agg cells')/\CmdAt w' cells' c/\Below w.heap.size w w':=by
 have HC:=Lib.hid (fun W (hW:Below w.heap.size w W)=>copyCmd_any W cells c (h.keep hW) hn1 hn2 hn3 hn4)
 obtain⟨x1,x2,x3,o1,o2,o3,o4,o5,n1,l1,n2,l2,n3,l3,n4,l4,n5,l5,hcells⟩:=h.form
 have hx3:x3=⟨c.nm.toArray⟩:=by
  obtain⟨cv,hv,av,bv,rv,hh,_⟩:=h
  rw[hh] at hcells
  injection hcells with hcells
  simp only[List.cons.injEq,Value.string.injEq] at hcells
  exact hcells.2.2.2.2.2.2.2.1.symm
 subst hcells
 obtain⟨FIN,hFIN⟩:∃ FIN:World->Array Value->Prop,FIN=fun w' cells'=>CmdAt w' cells' c:=⟨_,rfl⟩
 suffices hgoal:Calls Tryz.prog 18 #[.agg #[.int .i64 c.kind,.string x1,.slice o1 n1 l1,.string x2,.slice o2 n2 l2,.slice o3 n3 l3,.slice o4 n4 l4,.string x3,.int .i64 c.id,.int .i64 c.n,.slice o5 n5 l5]] w fun e w'=>∃ cells',e=.returned (.agg cells')/\FIN w' cells'/\Below w.heap.size w w' from
  hgoal.mono fun e w' ⟨cells',q1,q2,q3⟩=>⟨cells',q1,by rw[hFIN] at q2;exact q2,q3⟩
 have HFIN:=Lib.hid (fun w' cells' (q:CmdAt w' cells' c)=>(show FIN w' cells' by rw[hFIN];exact q))
 have HX3:=Lib.hid hx3
 clear h hFIN hx3 hn1 hn2 hn3 hn4
 generalize hck:c.kind=ck at *
 generalize hci:c.id=ci at *
 generalize hcn:c.n=cn at *
 have HK:=Lib.hid (And.intro hck (And.intro hci hcn))
 clear hck hci hcn
 have hb0:Below w.heap.size w ((w.alloc (.cells #[.int .i64 ck,.string x1,.slice o1 n1 l1,.string x2,.slice o2 n2 l2,.slice o3 n3 l3,.slice o4 n4 l4,.string x3,.int .i64 ci,.int .i64 cn,.slice o5 n5 l5] 34)).alloc (.cells #[.int .i64 0,.string ⟨#[]⟩,.slice none 0 0,.string ⟨#[]⟩,.slice none 0 0,.slice none 0 0,.slice none 0 0,.string ⟨#[]⟩,.int .i64 0,.int .i64 0,.slice none 0 0] 34)):=balloc (balloc (Below.refl _ _) _) _
 have hz:=blkNew1 w (.cells #[.int .i64 ck,.string x1,.slice o1 n1 l1,.string x2,.slice o2 n2 l2,.slice o3 n3 l3,.slice o4 n4 l4,.string x3,.int .i64 ci,.int .i64 cn,.slice o5 n5 l5] 34) 34 #[.int .i64 0,.string ⟨#[]⟩,.slice none 0 0,.string ⟨#[]⟩,.slice none 0 0,.slice none 0 0,.slice none 0 0,.string ⟨#[]⟩,.int .i64 0,.int .i64 0,.slice none 0 0]
 have hq:=(Blk.new w 34 #[.int .i64 ck,.string x1,.slice o1 n1 l1,.string x2,.slice o2 n2 l2,.slice o3 n3 l3,.slice o4 n4 l4,.string x3,.int .i64 ci,.int .i64 cn,.slice o5 n5 l5]).alloc (.cells #[.int .i64 0,.string ⟨#[]⟩,.slice none 0 0,.string ⟨#[]⟩,.slice none 0 0,.slice none 0 0,.slice none 0 0,.string ⟨#[]⟩,.int .i64 0,.int .i64 0,.slice none 0 0] 34)
 obtain⟨W0,hW0⟩:∃ W0,(w.alloc (.cells #[.int .i64 ck,.string x1,.slice o1 n1 l1,.string x2,.slice o2 n2 l2,.slice o3 n3 l3,.slice o4 n4 l4,.string x3,.int .i64 ci,.int .i64 cn,.slice o5 n5 l5] 34)).alloc (.cells #[.int .i64 0,.string ⟨#[]⟩,.slice none 0 0,.string ⟨#[]⟩,.slice none 0 0,.slice none 0 0,.slice none 0 0,.string ⟨#[]⟩,.int .i64 0,.int .i64 0,.slice none 0 0] 34)=W0:=⟨_,rfl⟩
 rw[hW0] at hb0 hz hq
 have k0:=hq.cell 0
 have k1:=hq.cell 1
 have k2:=hq.cell 2
 have k3:=hq.cell 3
 have k4:=hq.cell 4
 have k5:=hq.cell 5
 have k6:=hq.cell 6
 have k7:=hq.cell 7
 have k8:=hq.cell 8
 have k9:=hq.cell 9
 have k10:=hq.cell 10
 have kl:=hq.lt
 simp only[List.getElem?_toArray,List.getElem?_cons_zero,List.getElem?_cons_succ] at k0 k1 k2 k3 k4 k5 k6 k7 k8 k9 k10
 have HB0:=Lib.hid hb0
 have HZ:=Lib.hid hz
 have HQ:=Lib.hid hq
 have HW0:=Lib.hid hW0
 clear hb0 hz hq hW0
 go_enter Tryz.func18,Tryz.ntmps18
 go_upto_region 1 with fail
 rw[HW0.out]
 go_wp2_with fail
 refine (of_any W0 ck ci cn x1 x2 x3 o1 o2 o3 o4 o5 n1 l1 n2 l2 n3 l3 n4 l4 n5 l5).mono ?_
 rintro e w1 ⟨rfl,hb1⟩
 have HC1:=Lib.hid (HC.out w1 (HB0.out.trans (hb1.mono HB0.out.size)))
 have HB1:=Lib.hid hb1
 clear k0 k1 k2 k3 k4 k5 k6 k7 k8 k9 k10 kl hb1
 go_wp2_with fail
 refine HC1.out.mono ?_
 rintro e w2 ⟨cells',rfl,hat,hb2⟩
 obtain⟨cv,hv,av,bv,rv,rfl,q1,q2,q3,q4,q5⟩:=hat w2 (MT.refl _)
 obtain⟨p1,m1,rfl,_,_⟩:=q1.form
 obtain⟨p2,m2,rfl,_,_⟩:=q2.form
 obtain⟨p3,m3,rfl,_,_⟩:=q3.form
 obtain⟨p4,m4,rfl,_,_⟩:=q4.form
 obtain⟨p5,m5,rfl,_,_⟩:=q5.form
 clear q1 q2 q3 q4 q5
 rw[HK.out.1,HK.out.2.1,HK.out.2.2] at *
 generalize (⟨c.rel.name.toArray⟩:ByteArray)=y1 at *
 generalize (⟨c.q.name.toArray⟩:ByteArray)=y2 at *
 rw[<-HX3.out] at *
 generalize (List.map Col.cells c.rel.cols).length=e1 at *
 generalize c.q.head.length=e2 at *
 generalize c.q.atoms.length=e3 at *
 generalize c.b.length=e4 at *
 generalize (List.map Vl.cells c.row).length=e5 at *
 have HAT:=Lib.hid hat
 have hb12:=HB1.out.trans (hb2.mono HB1.out.size)
 have hq2:=(HQ.out.below hb12 HQ.out.lt).alloc (.cells #[.int .i64 0,.string ⟨#[]⟩,.slice none 0 0,.string ⟨#[]⟩,.slice none 0 0,.slice none 0 0,.slice none 0 0,.string ⟨#[]⟩,.int .i64 0,.int .i64 0,.slice none 0 0] 39)
 have hz2:=(HZ.out.below hb12 HZ.out.lt).alloc (.cells #[.int .i64 0,.string ⟨#[]⟩,.slice none 0 0,.string ⟨#[]⟩,.slice none 0 0,.slice none 0 0,.slice none 0 0,.string ⟨#[]⟩,.int .i64 0,.int .i64 0,.slice none 0 0] 39)
 have hw2:=balloc (HB0.out.trans (hb12.mono HB0.out.size)) (.cells #[.int .i64 0,.string ⟨#[]⟩,.slice none 0 0,.string ⟨#[]⟩,.slice none 0 0,.slice none 0 0,.slice none 0 0,.string ⟨#[]⟩,.int .i64 0,.int .i64 0,.slice none 0 0] 39)
 have hn2:=Blk.new w2 39 #[.int .i64 0,.string ⟨#[]⟩,.slice none 0 0,.string ⟨#[]⟩,.slice none 0 0,.slice none 0 0,.slice none 0 0,.string ⟨#[]⟩,.int .i64 0,.int .i64 0,.slice none 0 0]
 have hm2:MT 0 [39,34] w2 (w2.alloc (.cells #[.int .i64 0,.string ⟨#[]⟩,.slice none 0 0,.string ⟨#[]⟩,.slice none 0 0,.slice none 0 0,.slice none 0 0,.string ⟨#[]⟩,.int .i64 0,.int .i64 0,.slice none 0 0] 39)):=MT.alloc (MT.refl _) _
 have hsz:w.heap.size+1<w2.heap.size:=by
  have h1:=(HZ.out.below hb12 HZ.out.lt).lt
  exact h1
 have HQ2:=Lib.hid hq2
 have HZ2:=Lib.hid hz2
 have HW2:=Lib.hid hw2
 have HN2:=Lib.hid hn2
 have HM2:=Lib.hid hm2
 have HSZ:=Lib.hid hsz
 clear hat hb2 hb12 hq2 hz2 hw2 hn2 hm2 hsz HC HC1
 go_wp2_with (refine wpList_store_blk rfl 39 _ _ rfl w2.heap.size 39 _ _ rfl rfl HN2.out (by kernel_rfl) rfl (by simp [Value.oneCell']) ?_)
 intro w3 hb3 hm3 hz3
 have hq3:=HQ2.out.mod hm3 (by have:=HSZ.out;omega)
 have hz3':=HZ2.out.mod hm3 (by have:=HSZ.out;omega)
 have hw3:=Mod.own HW2.out hm3 (by have:=HSZ.out;omega)
 have hm23:=HM2.out.trans (MT.ofMod (B:=0) (Ts:=[39,34]) hm3 HN2.out (by simp) (Nat.zero_le _))
 have k0:=hq3.cell 0
 have k7:=hq3.cell 7
 have k8:=hq3.cell 8
 have k9:=hq3.cell 9
 have kl:=hq3.lt
 have r1:=hb3.cell 1
 have r2:=hb3.cell 2
 have r3:=hb3.cell 3
 have r4:=hb3.cell 4
 have r5:=hb3.cell 5
 have r6:=hb3.cell 6
 have r10:=hb3.cell 10
 have rl:=hb3.lt
 simp only[List.getElem?_toArray,List.getElem?_cons_zero,List.getElem?_cons_succ] at k0 k7 k8 k9 r1 r2 r3 r4 r5 r6 r10
 have HZ3:=Lib.hid hz3'
 have HW3:=Lib.hid hw3
 have HM3:=Lib.hid hm23
 clear hq3 hz3' hw3 hm23 hb3 hm3 hz3
 go_wp2_with (refine wpList_store_blk rfl 34 _ _ rfl (w.heap.size+1) 34 _ _ rfl rfl HZ3.out (by kernel_rfl) rfl (by simp [Value.oneCell']) ?_)
 intro w4 hb4 hm4 hz4
 clear k0 k7 k8 k9 kl r1 r2 r3 r4 r5 r6 r10 rl
 have r0:=hb4.cell 0
 have r1:=hb4.cell 1
 have r2:=hb4.cell 2
 have r3:=hb4.cell 3
 have r4:=hb4.cell 4
 have r5:=hb4.cell 5
 have r6:=hb4.cell 6
 have r7:=hb4.cell 7
 have r8:=hb4.cell 8
 have r9:=hb4.cell 9
 have r10:=hb4.cell 10
 simp only[List.getElem?_toArray,List.getElem?_cons_zero,List.getElem?_cons_succ] at r0 r1 r2 r3 r4 r5 r6 r7 r8 r9 r10
 have FN:=HFIN.out w4 _ (HAT.out w4 (HM3.out.trans (MT.ofMod (B:=0) (Ts:=[39,34]) hm4 HZ3.out (by simp) (Nat.zero_le _))))
 have hbw:=Mod.own HW3.out hm4 (Nat.le_succ _)
 clear hb4 hm4 hz4
 go_wp2_with fail
 refine bodyPost_ret (v:=.agg #[.int .i64 ck,.string y1,.slice p1 e1 m1,.string y2,.slice p2 e2 m2,.slice p3 e3 m3,.slice p4 e4 m4,.string x3,.int .i64 ci,.int .i64 cn,.slice p5 e5 m5]) (by simp [results,Tryz.results18,go_sem, *]) rfl ⟨_,rfl,FN,hbw⟩
end Go.Proofs.YtamjadghncnbcaaGreatDoor
