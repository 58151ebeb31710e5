/- A region that draws its order and ends in stores: loads taken first, as long as the stores have not begun: no program in sight. -/
import Derived.Test.YtamjadghncnbcaaGreatDoorLaW
import Derived.OrdersHeld
import Derived.Deep.RegionHeld
namespace Go.Proofs.YtamjadghncnbcaaGreatDoor
open Go.RowKit
set_option linter.unusedVariables false
section
variable {P : Program} {md : Region.Mode} {ops : Array Oper} {Q : Exit -> Act -> World -> Prop} {S : World -> Prop} {st : Nat}
def AnyTill (P:Program) (md:Region.Mode) (ops:Array Oper) (Q:Exit->Act->World->Prop) (S:World->Prop) (st:Nat):Nat->Array Bool->Act->World->Prop
 | 0,l,a,w=>Region.ready md ops l=[]/\Q .normal a w
 | f+1,l,a,w=>(Region.ready md ops l=[]->Q .normal a w)/\∀ i∈Region.ready md ops l,wpOp P ops Q i (fun a' w'=>((l.setIfInBounds i true).getD st true=false->S w')/\AnyTill P md ops Q S st f (l.setIfInBounds i true) a' w') a w
theorem AnyTill.any:∀ (f:Nat) (l:Array Bool) (a:Act) (w:World),AnyTill P md ops Q S st f l a w->wpAny P md ops Q f l a w
 | 0,_,_,_,h=>h
 | f+1,_,_,_,h=>⟨h.1,fun i hi=>wpOp_mono (fun a' w' q=>AnyTill.any f _ a' w' q.2) (h.2 i hi)⟩
def waits (md:Region.Mode) (ops:Array Oper) (st i:Nat):Bool:=match ops[st]? with
 | some o=>o.after.any fun e=>Region.binds md e && e.on == i
 | none=>false
theorem waits_not {i:Nat} {l:Array Bool} (hw:waits md ops st i=true) (hi:l.getD i true=false):st ∉ Region.ready md ops l:=by
 intro hs
 obtain⟨_,o,ho,hall⟩:=mem_ready.1 hs
 unfold waits at hw
 rw[ho] at hw
 obtain⟨e,he,hb⟩:=Array.any_eq_true'.1 hw
 rw[Bool.and_eq_true,beq_iff_eq] at hb
 have h1:=hall e he hb.1
 rw[hb.2] at h1
 rcases Nat.lt_or_ge i l.size with q | q
 ·simp [q] at hi h1
  rw[hi] at h1
  cases h1
 ·simp [Array.getElem?_eq_none q] at h1
theorem AnyTill.first {i:Nat} {oi:Oper} {v:Value} (hi:ops[i]? = some oi) (hs:Region.noSelect ops=true) (hQ:∀ c a w,Q (.panic c) (a.put oi.dst v) w->Q (.panic c) a w) (hst:waits md ops st i=true) :
 ∀ (f:Nat) (l:Array Bool) (a:Act) (w:World),Region.free md ops l i=true->(Region.ready md ops l).contains i=true->l.getD st true=false->YieldsIf P ops S oi v a->S w ->
  AnyTill P md ops Q S st f (l.setIfInBounds i true) (a.put oi.dst v) w->AnyTill P md ops Q S st (f+1) l a w:=by
 have hsel:=Region.noSelect_spec hs
 suffices hg:∀ (f:Nat) (l:Array Bool) (a:Act) (w:World),
  (∀ j oj,ops[j]? = some oj->j≠i->l.getD j true=false->(∀ e∈oj.after,Region.binds md e=true->e.on≠i)->oi.apart ops oj=true) ->
  i∈Region.ready md ops l->l.getD st true=false->YieldsIf P ops S oi v a->S w ->
  AnyTill P md ops Q S st f (l.setIfInBounds i true) (a.put oi.dst v) w->AnyTill P md ops Q S st (f+1) l a w from
  fun f l a w hf hr h1 h2 h3 h4=>hg f l a w (Region.free_spec hi hf) (by simpa using hr) h1 h2 h3 h4
 intro f
 induction f with
 | zero =>
   intro l a w _ hr _ hy hS H
   refine⟨fun h=>(by rw[h] at hr;cases hr),fun j hj=>?_⟩
   by_cases hji:j=i
   ·subst hji;exact hy.wpOp hi hS ⟨fun _=>hS,H⟩
   ·have:=ready_mono hj hji
    rw[H.1] at this
    cases this
 | succ f ih =>
   intro l a w hfree hr hun hy hS H
   have hil:=(mem_ready.1 hr).1
   refine⟨fun h=>(by rw[h] at hr;cases hr),fun j hj=>?_⟩
   by_cases hji:j=i
   ·subst hji;exact hy.wpOp hi hS ⟨fun _=>hS,H⟩
   ·have hjs:j≠st:=fun e=>waits_not hst hil (e ▸ hj)
    have his:i≠st:=fun e=>waits_not hst hil (e ▸ hr)
    obtain⟨hjun,oj,hoj,hall⟩:=mem_ready.1 hj
    have hnot:∀ e∈oj.after,Region.binds md e=true->e.on≠i:=fun e he hb heq=>by
     have h1:=hall e he hb
     rw[heq] at h1
     rcases Nat.lt_or_ge i l.size with h' | h'
     ·simp [h'] at hil h1;rw[hil] at h1;cases h1
     ·simp [Array.getElem?_eq_none h'] at h1
    have h2:=wpOp_putIf hoj (hfree j oj hoj hji hjun hnot) (fun cs b=>hsel i oi cs b hi) (fun cs b=>hsel j oj cs b hoj) hQ hy (H.2 j (ready_mono hj hji))
    refine wpOp_mono (fun a' w' h3=>?_) h2
    have hS':S w':=h3.2.1 (by rw[getD_set_ne true hjs,getD_set_ne true his];exact hun)
    refine⟨fun _=>hS',ih (l.setIfInBounds j true) a' w' (fun k ok hk hki hku hno=>?_) (ready_mono hr (Ne.symm hji)) (by rw[getD_set_ne true hjs];exact hun) h3.1 hS' ?_⟩
    ·refine hfree k ok hk hki ?_ hno
     by_cases hjk:j=k
     ·subst hjk;exact hjun
     ·rw[getD_set_ne true hjk] at hku;exact hku
    ·rw[Array.setIfInBounds_comm _ _ hji]
     exact h3.2.2
theorem AnyTill.take (i d:Nat) {oi:Oper} {v:Value} {f:Nat} {l:Array Bool} {a:Act} {w:World} (hi:ops[i]? = some oi) (hd:oi.dst=some d) (hs:Region.noSelect ops=true) (hst:waits md ops st i=true) (hf:Region.free md ops l i=true) (hr:(Region.ready md ops l).contains i=true) (hun:l.getD st true=false)
 (hQ:∀ c (a:Act) (t:Array Value) w,Q (.panic c) { a with tmps:=t } w->Q (.panic c) a w) (hw:Region.wanted oi (yielded ops a.tmps)=true) (hS:S w) (hy:∀ w,S w->(execOp a.eval oi).run P w=.ok (.value v) w)
 (h:AnyTill P md ops Q S st f (l.setIfInBounds i true) { a with tmps:=a.tmps.setIfInBounds d v } w):AnyTill P md ops Q S st (f+1) l a w:=by
 refine AnyTill.first hi hs (fun c a' w' hh=>?_) hst f l a w hf hr hun (.inl ⟨hw,hy⟩) hS ?_
 ·rw[hd] at hh
  exact hQ c a' _ w' hh
 ·rw[hd]
  exact h
theorem AnyTill.one (i:Nat) {o:Oper} {f:Nat} {l:Array Bool} {a:Act} {w:World} (ho:ops[i]? = some o) (hr:Region.ready md ops l=[i])
 (h:∀ K:Act->World->Prop,Shut (∀ a w,((l.setIfInBounds i true).getD st true=false->S w)->AnyTill P md ops Q S st f (l.setIfInBounds i true) a w->K a w)->if Region.wanted o (yielded ops a.tmps)=true then Oper.wp P o a w K Q else K (a.put o.dst undef) w):AnyTill P md ops Q S st (f+1) l a w:=by
 refine⟨fun h0=>(by rw[hr] at h0;cases h0),fun j hj=>?_⟩
 rw[hr,List.mem_singleton] at hj
 subst hj
 exact wpOp_step ho (fun K hK=>h K (fun a w h1 h2=>hK a w ⟨h1,h2⟩))
theorem AnyTill.done {f:Nat} {l:Array Bool} {a:Act} {w:World} (hr:Region.ready md ops l=[]) (h:Q .normal a w):AnyTill P md ops Q S st f l a w:=by
 cases f with
 | zero=>exact⟨hr,h⟩
 | succ f=>exact⟨fun _=>h,by rw[hr];simp⟩
theorem AnyTill.start (S:World->Prop) (st:Nat) {id:Nat} {a:Act} {w:World} (hm:P.follows .mixedOrders=true) (h:AnyTill P .any ops Q S st ops.size (Array.replicate ops.size false) a w.drew):(Code.region id ops true).wp P Q a w :=
 wp_region_any hm (AnyTill.any _ _ _ _ h)
theorem Held.take (i d:Nat) {oi:Oper} {v:Value} {f:Nat} {l:Array Bool} {a:Act} {w:World} (hi:ops[i]? = some oi) (hd:oi.dst=some d) (hs:Region.noSelect ops=true) (hf:Region.free md ops l i=true) (hr:(Region.ready md ops l).contains i=true)
 (hQ:∀ c (a:Act) (t:Array Value) w,Q (.panic c) { a with tmps:=t } w->Q (.panic c) a w) (hw:Region.wanted oi (yielded ops a.tmps)=true) (hS:S w) (hy:∀ w,S w->(execOp a.eval oi).run P w=.ok (.value v) w)
 (h:wpAnyH P md ops Q S f (l.setIfInBounds i true) { a with tmps:=a.tmps.setIfInBounds d v } w):wpAnyH P md ops Q S (f+1) l a w:=by
 refine wpAnyH_take hi hs hf hr (fun c a' w' hh=>?_) (.inl ⟨hw,hy⟩) hS ?_
 ·rw[hd] at hh
  exact hQ c a' _ w' hh
 ·rw[hd]
  exact h
theorem Held.one (i:Nat) {o:Oper} {f:Nat} {l:Array Bool} {a:Act} {w:World} (ho:ops[i]? = some o) (hr:Region.ready md ops l=[i])
 (h:∀ K:Act->World->Prop,Shut (∀ a w,S w->wpAnyH P md ops Q S f (l.setIfInBounds i true) a w->K a w)->if Region.wanted o (yielded ops a.tmps)=true then Oper.wp P o a w K Q else K (a.put o.dst undef) w):wpAnyH P md ops Q S (f+1) l a w:=by
 refine wpAnyH_all hr (by simp) fun j hj=>?_
 rw[List.mem_singleton] at hj
 subst hj
 exact wpOp_step ho (fun K hK=>h K (fun a w h1 h2=>hK a w ⟨h1,h2⟩))
end
end Go.Proofs.YtamjadghncnbcaaGreatDoor
