/- A region that draws its order and ends in stores: -/
import Derived.Test.YtgopfpjinohncaaGreatDoorShelfZF
import Derived.Deep.RegionHeld
import Derived.RangeFuncCalls
import Derived.OrdersIn
set_option linter.unusedVariables false
namespace Go.Proofs.YtgopfpjinohncaaGreatDoor
open Go.RowKit
section
variable {P : Program} {md : Region.Mode} {ops : Array Oper} {Q : Exit -> Act -> World -> Prop} {S : World -> Prop} {st : Nat}
def am (P:Program) (md:Region.Mode) (ops:Array Oper) (Q:Exit->Act->World->Prop) (S:World->Prop) (st:Nat):Nat->Array Bool->Act->World->Prop
 | 0,l,a,w=>Region.ready md ops l=[]/\Q .normal a w
 | f+1,l,a,w=>(Region.ready md ops l=[]->Q .normal a w)/\∀ i∈Region.ready md ops l,wpOp P ops Q i (fun a' w'=>((l.setIfInBounds i true).getD st true=false->S w')/\am P md ops Q S st f (l.setIfInBounds i true) a' w') a w
theorem am.any:∀ (f:Nat) (l:Array Bool) (a:Act) (w:World),am P md ops Q S st f l a w->wpAny P md ops Q f l a w
 | 0,_,_,_,h=>h
 | f+1,_,_,_,h=>⟨h.1,fun i hi=>wpOp_mono (fun a' w' q=>am.any f _ a' w' q.2) (h.2 i hi)⟩
def nV (md:Region.Mode) (ops:Array Oper) (st i:Nat):Bool:=match ops[st]? with
 | some o=>o.after.any fun e=>Region.binds md e && e.on == i
 | none=>false
theorem iQ {i:Nat} {l:Array Bool} (hw:nV md ops st i=true) (hi:l.getD i true=false):st ∉ Region.ready md ops l:=by
 intro hs
 obtain⟨_,o,ho,hall⟩:=mem_ready.1 hs
 unfold nV at hw
 rw[ho] at hw
 obtain⟨e,he,hb⟩:=Array.any_eq_true'.1 hw
 rw[Bool.and_eq_true,beq_iff_eq] at hb
 have h1:=hall e he hb.1
 rw[hb.2] at h1
 rcases Nat.lt_or_ge i l.size with q | q
 ·simp [q] at hi h1
  rw[hi] at h1
  cases h1
 ·simp [Array.getElem?_eq_none q] at h1
theorem am.first {i:Nat} {oi:Oper} {v:Value} (hi:ops[i]? = some oi) (hs:Region.noSelect ops=true) (hQ:∀ c a w,Q (.panic c) (a.put oi.dst v) w->Q (.panic c) a w) (hst:nV md ops st i=true) :
 ∀ (f:Nat) (l:Array Bool) (a:Act) (w:World),Region.free md ops l i=true->(Region.ready md ops l).contains i=true->l.getD st true=false->YieldsIf P ops S oi v a->S w ->
  am P md ops Q S st f (l.setIfInBounds i true) (a.put oi.dst v) w->am P md ops Q S st (f+1) l a w:=by
 have hsel:=Region.noSelect_spec hs
 suffices hg:∀ (f:Nat) (l:Array Bool) (a:Act) (w:World),
  (∀ j oj,ops[j]? = some oj->j≠i->l.getD j true=false->(∀ e∈oj.after,Region.binds md e=true->e.on≠i)->oi.apart ops oj=true) ->
  i∈Region.ready md ops l->l.getD st true=false->YieldsIf P ops S oi v a->S w ->
  am P md ops Q S st f (l.setIfInBounds i true) (a.put oi.dst v) w->am P md ops Q S st (f+1) l a w from
  fun f l a w hf hr h1 h2 h3 h4=>hg f l a w (Region.free_spec hi hf) (by simpa using hr) h1 h2 h3 h4
 intro f
 induction f with
 | zero =>
   intro l a w _ hr _ hy hS H
   refine⟨fun h=>(by rw[h] at hr;cases hr),fun j hj=>?_⟩
   by_cases hji:j=i
   ·subst hji;exact hy.wpOp hi hS ⟨fun _=>hS,H⟩
   ·have:=ready_mono hj hji
    rw[H.1] at this
    cases this
 | succ f ih =>
   intro l a w hfree hr hun hy hS H
   have hil:=(mem_ready.1 hr).1
   refine⟨fun h=>(by rw[h] at hr;cases hr),fun j hj=>?_⟩
   by_cases hji:j=i
   ·subst hji;exact hy.wpOp hi hS ⟨fun _=>hS,H⟩
   ·have hjs:j≠st:=fun e=>iQ hst hil (e ▸ hj)
    have his:i≠st:=fun e=>iQ hst hil (e ▸ hr)
    obtain⟨hjun,oj,hoj,hall⟩:=mem_ready.1 hj
    have hnot:∀ e∈oj.after,Region.binds md e=true->e.on≠i:=fun e he hb heq=>by
     have h1:=hall e he hb
     rw[heq] at h1
     rcases Nat.lt_or_ge i l.size with h' | h'
     ·simp [h'] at hil h1;rw[hil] at h1;cases h1
     ·simp [Array.getElem?_eq_none h'] at h1
    have h2:=wpOp_putIf hoj (hfree j oj hoj hji hjun hnot) (fun cs b=>hsel i oi cs b hi) (fun cs b=>hsel j oj cs b hoj) hQ hy (H.2 j (ready_mono hj hji))
    refine wpOp_mono (fun a' w' h3=>?_) h2
    have hS':S w':=h3.2.1 (by rw[getD_set_ne true hjs,getD_set_ne true his];exact hun)
    refine⟨fun _=>hS',ih (l.setIfInBounds j true) a' w' (fun k ok hk hki hku hno=>?_) (ready_mono hr (Ne.symm hji)) (by rw[getD_set_ne true hjs];exact hun) h3.1 hS' ?_⟩
    ·refine hfree k ok hk hki ?_ hno
     by_cases hjk:j=k
     ·subst hjk;exact hjun
     ·rw[getD_set_ne true hjk] at hku;exact hku
    ·rw[Array.setIfInBounds_comm _ _ hji]
     exact h3.2.2
theorem am.take (i d:Nat) {oi:Oper} {v:Value} {f:Nat} {l:Array Bool} {a:Act} {w:World} (hi:ops[i]? = some oi) (hd:oi.dst=some d) (hs:Region.noSelect ops=true) (hst:nV md ops st i=true) (hf:Region.free md ops l i=true) (hr:(Region.ready md ops l).contains i=true) (hun:l.getD st true=false)
 (hQ:∀ c (a:Act) (t:Array Value) w,Q (.panic c) { a with tmps:=t } w->Q (.panic c) a w) (hw:Region.wanted oi (yielded ops a.tmps)=true) (hS:S w) (hy:∀ w,S w->(execOp a.eval oi).run P w=.ok (.value v) w)
 (h:am P md ops Q S st f (l.setIfInBounds i true) { a with tmps:=a.tmps.setIfInBounds d v } w):am P md ops Q S st (f+1) l a w:=by
 refine am.first hi hs (fun c a' w' hh=>?_) hst f l a w hf hr hun (.inl ⟨hw,hy⟩) hS ?_
 ·rw[hd] at hh
  exact hQ c a' _ w' hh
 ·rw[hd]
  exact h
theorem am.one (i:Nat) {o:Oper} {f:Nat} {l:Array Bool} {a:Act} {w:World} (ho:ops[i]? = some o) (hr:Region.ready md ops l=[i])
 (h:∀ K:Act->World->Prop,Shut (∀ a w,((l.setIfInBounds i true).getD st true=false->S w)->am P md ops Q S st f (l.setIfInBounds i true) a w->K a w)->if Region.wanted o (yielded ops a.tmps)=true then Oper.wp P o a w K Q else K (a.put o.dst undef) w):am P md ops Q S st (f+1) l a w:=by
 refine⟨fun h0=>(by rw[hr] at h0;cases h0),fun j hj=>?_⟩
 rw[hr,List.mem_singleton] at hj
 subst hj
 exact wpOp_step ho (fun K hK=>h K (fun a w h1 h2=>hK a w ⟨h1,h2⟩))
theorem am.done {f:Nat} {l:Array Bool} {a:Act} {w:World} (hr:Region.ready md ops l=[]) (h:Q .normal a w):am P md ops Q S st f l a w:=by
 cases f with
 | zero=>exact⟨hr,h⟩
 | succ f=>exact⟨fun _=>h,by rw[hr];simp⟩
theorem am.start (S:World->Prop) (st:Nat) {id:Nat} {a:Act} {w:World} (hm:P.follows .mixedOrders=true) (h:am P .any ops Q S st ops.size (Array.replicate ops.size false) a w.drew):(Code.region id ops true).wp P Q a w :=
 wp_region_any hm (am.any _ _ _ _ h)
theorem Held.take (i d:Nat) {oi:Oper} {v:Value} {f:Nat} {l:Array Bool} {a:Act} {w:World} (hi:ops[i]? = some oi) (hd:oi.dst=some d) (hs:Region.noSelect ops=true) (hf:Region.free md ops l i=true) (hr:(Region.ready md ops l).contains i=true)
 (hQ:∀ c (a:Act) (t:Array Value) w,Q (.panic c) { a with tmps:=t } w->Q (.panic c) a w) (hw:Region.wanted oi (yielded ops a.tmps)=true) (hS:S w) (hy:∀ w,S w->(execOp a.eval oi).run P w=.ok (.value v) w)
 (h:wpAnyH P md ops Q S f (l.setIfInBounds i true) { a with tmps:=a.tmps.setIfInBounds d v } w):wpAnyH P md ops Q S (f+1) l a w:=by
 refine wpAnyH_take hi hs hf hr (fun c a' w' hh=>?_) (.inl ⟨hw,hy⟩) hS ?_
 ·rw[hd] at hh
  exact hQ c a' _ w' hh
 ·rw[hd]
  exact h
theorem Held.one (i:Nat) {o:Oper} {f:Nat} {l:Array Bool} {a:Act} {w:World} (ho:ops[i]? = some o) (hr:Region.ready md ops l=[i])
 (h:∀ K:Act->World->Prop,Shut (∀ a w,S w->wpAnyH P md ops Q S f (l.setIfInBounds i true) a w->K a w)->if Region.wanted o (yielded ops a.tmps)=true then Oper.wp P o a w K Q else K (a.put o.dst undef) w):wpAnyH P md ops Q S (f+1) l a w:=by
 refine wpAnyH_all hr (by simp) fun j hj=>?_
 rw[List.mem_singleton] at hj
 subst hj
 exact wpOp_step ho (fun K hK=>h K (fun a w h1 h2=>hK a w ⟨h1,h2⟩))
end
section
variable {P : Program} {md : Region.Mode} {ops : Array Oper} {Q : Exit -> Act -> World -> Prop} {S : World -> Prop}
def BO (Q:Exit->Act->World->Prop):Exit->Act->World->Prop
 | .normal,a,w=>Q .normal a w
 | _,_,_=>False
theorem lT {id:Nat} {b:Bool} {a:Act} {w:World} (h:(Code.region id ops b).wp P (BO Q) a w):(Code.region id ops b).wp P Q a w :=
 Code.wp_mono (fun e a w q=>by cases e<;>first | exact q | exact q.elim) h
theorem Held.tk (i d:Nat) {oi:Oper} {v:Value} {f:Nat} {l l':Array Bool} {a:Act} {t':Array Value} {w:World} (hS:S w) (h:wpAnyH P md ops Q S f l' { a with tmps:=t' } w)
 (hi:ops[i]? = some oi:=by exact rfl) (hd:oi.dst=some d:=by exact rfl) (hs:Region.noSelect ops=true:=by kernel_rfl) (hf:Region.free md ops l i=true:=by kernel_rfl) (hr:(Region.ready md ops l).contains i=true:=by kernel_rfl)
 (hQ:∀ c (a:Act) (t:Array Value) w,Q (.panic c) { a with tmps:=t } w->Q (.panic c) a w:=by exact fun _ _ _ _ h=>h) (hw:Region.wanted oi (yielded ops a.tmps)=true:=by kernel_rfl)
 (hy:∀ u,S u->(execOp a.eval oi).run P u=.ok (.value v) u:=by
   intro u hu
   have q:=HSC.out u hu
   repeat (obtain⟨_,q⟩:=q)
   go_simp
   try with_reducible rfl)
 (hl:l.setIfInBounds i true=l':=by
   try simp only[FG]
   exact rfl)
 (ht:a.tmps.setIfInBounds d v=t':=by
   try simp only[FG]
   exact rfl):wpAnyH P md ops Q S (f+1) l a w:=by
 subst hl ht
 exact Held.take i d hi hd hs hf hr hQ hw hS hy h
theorem am.tk (i d:Nat) {st:Nat} {oi:Oper} {v:Value} {f:Nat} {l l':Array Bool} {a:Act} {t':Array Value} {w:World} (hS:S w) (h:am P md ops Q S st f l' { a with tmps:=t' } w)
 (hi:ops[i]? = some oi:=by exact rfl) (hd:oi.dst=some d:=by exact rfl) (hs:Region.noSelect ops=true:=by kernel_rfl) (hst:nV md ops st i=true:=by kernel_rfl) (hf:Region.free md ops l i=true:=by kernel_rfl) (hr:(Region.ready md ops l).contains i=true:=by kernel_rfl) (hun:l.getD st true=false:=by kernel_rfl)
 (hQ:∀ c (a:Act) (t:Array Value) w,Q (.panic c) { a with tmps:=t } w->Q (.panic c) a w:=by exact fun _ _ _ _ h=>h) (hw:Region.wanted oi (yielded ops a.tmps)=true:=by kernel_rfl)
 (hy:∀ u,S u->(execOp a.eval oi).run P u=.ok (.value v) u:=by
   intro u hu
   have q:=HSC.out u hu
   repeat (obtain⟨_,q⟩:=q)
   go_simp
   try with_reducible rfl)
 (hl:l.setIfInBounds i true=l':=by
   try simp only[FG]
   exact rfl)
 (ht:a.tmps.setIfInBounds d v=t':=by
   try simp only[FG]
   exact rfl):am P md ops Q S st (f+1) l a w:=by
 subst hl ht
 exact am.take i d hi hd hs hst hf hr hun hQ hw hS hy h
theorem am.on (i:Nat) {st:Nat} {o:Oper} {f:Nat} {l l':Array Bool} {a:Act} {w:World}
 (h:∀ K:Act->World->Prop,Shut (∀ a w,(l'.getD st true=false->S w)->am P md ops Q S st f l' a w->K a w)->if Region.wanted o (yielded ops a.tmps)=true then Oper.wp P o a w K Q else K (a.put o.dst undef) w)
 (ho:ops[i]? = some o:=by exact rfl) (hr:Region.ready md ops l=[i]:=by kernel_rfl)
 (hl:l.setIfInBounds i true=l':=by
   try simp only[FG]
   exact rfl):am P md ops Q S st (f+1) l a w:=by
 subst hl
 exact am.one i ho hr h
theorem Held.on (i:Nat) {o:Oper} {f:Nat} {l l':Array Bool} {a:Act} {w:World}
 (h:∀ K:Act->World->Prop,Shut (∀ a w,S w->wpAnyH P md ops Q S f l' a w->K a w)->if Region.wanted o (yielded ops a.tmps)=true then Oper.wp P o a w K Q else K (a.put o.dst undef) w)
 (ho:ops[i]? = some o:=by exact rfl) (hr:Region.ready md ops l=[i]:=by kernel_rfl)
 (hl:l.setIfInBounds i true=l':=by
   try simp only[FG]
   exact rfl):wpAnyH P md ops Q S (f+1) l a w:=by
 subst hl
 exact Held.one i ho hr h
end
section
variable {P : Program} {md : Region.Mode} {ops : Array Oper} {Q : Exit -> Act -> World -> Prop}
def mC (md:Region.Mode) (ops:Array Oper):Array Bool->Array Value->List (Nat × Nat)->Bool
 | _,_,[]=>true
 | listed,tmps,(i,d)::is=>(match ops[i]? with
   | some oi=>oi.dst == some d && Region.free md ops listed i && (Region.ready md ops listed).contains i && (Region.wanted oi (yielded ops tmps) == false)
   | none=>false) && mC md ops (listed.setIfInBounds i true) (tmps.setIfInBounds d undef) is
def qZ:Array Bool->List (Nat × Nat)->Array Bool
 | l,[]=>l
 | l,(i,_)::is=>qZ (l.setIfInBounds i true) is
def qR:Array Value->List (Nat × Nat)->Array Value
 | t,[]=>t
 | t,(_,d)::is=>qR (t.setIfInBounds d undef) is
end
section
variable {P : Program} {md : Region.Mode} {ops : Array Oper} {Q : Exit -> Act -> World -> Prop} {S : World -> Prop}
theorem Held.o1 (i d:Nat) {oi:Oper} {v:Value} {f:Nat} {l l':Array Bool} {a:Act} {t':Array Value} {w:World} (hS:S w) (h:wpAnyH P md ops Q S f l' { a with tmps:=t' } w)
 (hi:ops[i]? = some oi:=by exact rfl) (hd:oi.dst=some d:=by exact rfl) (hr:Region.ready md ops l=[i]:=by kernel_rfl) (hw:Region.wanted oi (yielded ops a.tmps)=true:=by kernel_rfl)
 (hy:∀ u,S u->(execOp a.eval oi).run P u=.ok (.value v) u:=by
   intro u hu
   have q:=HSC.out u hu
   repeat (obtain⟨_,q⟩:=q)
   go_simp
   try with_reducible rfl)
 (hl:l.setIfInBounds i true=l':=by
   try simp only[FG]
   exact rfl)
 (ht:a.tmps.setIfInBounds d v=t':=by
   try simp only[FG]
   exact rfl):wpAnyH P md ops Q S (f+1) l a w:=by
 subst hl ht
 refine wpAnyH_all hr (by simp) fun j hj=>?_
 rw[List.mem_singleton] at hj
 subst hj
 refine YieldsIf.wpOp hi (.inl ⟨hw,hy⟩) hS ⟨hS,?_⟩
 rw[hd]
 exact h
theorem Held.sks_go (hs:Region.noSelect ops=true) (hQ:∀ c (a:Act) (t:Array Value) w,Q (.panic c) { a with tmps:=t } w->Q (.panic c) a w):∀ (is:List (Nat × Nat)) (fuel:Nat) (listed:Array Bool) (a:Act) (w:World),
 mC md ops listed a.tmps is=true->S w->wpAnyH P md ops Q S fuel (qZ listed is) { a with tmps:=qR a.tmps is } w->wpAnyH P md ops Q S (fuel+is.length) listed a w
 | [],fuel,listed,a,w,_,_,h=>h
 | (i,d)::is,fuel,listed,a,w,hok,hS,h=>by
   unfold mC at hok
   rw[Bool.and_eq_true] at hok
   obtain⟨h1,h2⟩:=hok
   cases hi:ops[i]? with
   | none=>rw[hi] at h1;simp at h1
   | some oi =>
     rw[hi] at h1
     simp only[Bool.and_eq_true,beq_iff_eq] at h1
     obtain⟨⟨⟨hd,hf⟩,hr⟩,hw⟩:=h1
     have hp:a.put oi.dst undef = { a with tmps:=a.tmps.setIfInBounds d undef }:=by rw[hd];rfl
     show wpAnyH P md ops Q S ((fuel+is.length)+1) listed a w
     refine wpAnyH_take (oi:=oi) (v:=undef) hi hs hf hr (fun c a' w' hh=>?_) (.inr ⟨hw,rfl⟩) hS ?_
     ·rw[hd] at hh
      exact hQ c a' _ w' hh
     ·rw[hp]
      exact Held.sks_go hs hQ is fuel _ _ w h2 hS h
theorem Held.sks (n:Nat) (is:List (Nat × Nat)) {f:Nat} {l l':Array Bool} {a:Act} {t':Array Value} {w:World} (hS:S w) (h:wpAnyH P md ops Q S f l' { a with tmps:=t' } w)
 (hn:is.length=n:=by exact rfl) (hs:Region.noSelect ops=true:=by kernel_rfl) (hok:mC md ops l a.tmps is=true:=by kernel_rfl)
 (hQ:∀ c (a:Act) (t:Array Value) w,Q (.panic c) { a with tmps:=t } w->Q (.panic c) a w:=by exact fun _ _ _ _ h=>h)
 (hl:qZ l is=l':=by
   simp only[qZ,List.setIfInBounds_toArray,List.set_cons_succ,List.set_cons_zero]
   exact rfl)
 (ht:qR a.tmps is=t':=by
   simp only[qR,List.setIfInBounds_toArray,List.set_cons_succ,List.set_cons_zero]
   exact rfl):wpAnyH P md ops Q S (f+n) l a w:=by
 subst hl ht hn
 exact Held.sks_go hs hQ is f l a w hok hS h
end
section
variable {P : Program} {md : Region.Mode} {ops : Array Oper} {Q : Exit -> Act -> World -> Prop} {S : World -> Prop} {st : Nat}
def Aw (P:Program) (ops:Array Oper) (Q:Exit->Act->World->Prop) (i:Nat) (K:Act->World->Prop) (a:Act) (w:World):Prop:=match ops[i]? with
 | none=>K a w
 | some o=>if Region.wanted o (yielded ops a.tmps)=true then Oper.wp P o a w K Q else K (a.put o.dst undef) w
theorem Cb {i:Nat} {K K':Act->World->Prop} {a:Act} {w:World} (hk:∀ a w,K a w->K' a w) (h:Aw P ops Q i K a w):Aw P ops Q i K' a w:=by
 unfold Aw at *
 cases ho:ops[i]? with
 | none=>rw[ho] at h;exact hk _ _ h
 | some o =>
   rw[ho] at h
   simp only at h ⊢
   split
   ·rename_i hw;rw[if_pos hw] at h;exact Oper.wp_mono hk h
   ·rename_i hw;rw[if_neg hw] at h;exact hk _ _ h
theorem Dq {j:Nat} {oi oj:Oper} {v:Value} (hj:ops[j]? = some oj) (hap:oi.apart ops oj=true) (hsi:∀ cs b,oi.op ≠ .select cs b) (hsj:∀ cs b,oj.op ≠ .select cs b)
 (hQ:∀ c a w,Q (.panic c) (a.put oi.dst v) w->Q (.panic c) a w) {K:Act->World->Prop} {a:Act} {w:World} (hy:YieldsIf P ops S oi v a) (h:Aw P ops Q j K (a.put oi.dst v) w) :
 Aw P ops Q j (fun a' w'=>YieldsIf P ops S oi v a'/\K (a'.put oi.dst v) w') a w:=by
 obtain⟨h1,h2,h3⟩:=Oper.apart_spec hap
 have hk:∀ (a:Act),YieldsIf P ops S oi v a->∀ u,YieldsIf P ops S oi v (a.put oj.dst u):=fun a hy u=>hy.of_same (execOp_put oi hsi a oj.dst u h3) (wanted_put oi a oj.dst u h3)
 have go:∀ u w',K ((a.put oi.dst v).put oj.dst u) w'->YieldsIf P ops S oi v (a.put oj.dst u)/\K ((a.put oj.dst u).put oi.dst v) w':=fun u w' q=>⟨hk a hy u,by rw[<-Act.put_comm a v u h2];exact q⟩
 unfold Aw at *
 rw[hj] at h ⊢
 simp only at h ⊢
 rw[wanted_put oj a oi.dst v h1] at h
 by_cases hw:Region.wanted oj (yielded ops a.tmps)=true
 ·rw[if_pos hw] at h ⊢
  unfold Oper.wp at *
  rw[execOp_put oj hsj a oi.dst v h1] at h
  generalize (execOp a.eval oj).run P w=r at h ⊢
  rcases r with ⟨n,w'⟩ | ⟨x,w'⟩
  ·cases n
   case value u=>exact go _ _ h
   case skip=>exact go _ _ h
   case defer d =>
    refine⟨hk { a with defers:=d::a.defers } (hy.of_same rfl rfl) _,?_⟩
    rw[<-Act.put_comm _ v undef h2,<-Act.put_defers]
    exact h
   case enter f args =>
    refine Calls.mono h fun e w'' he=>?_
    cases e
    case returned u=>exact go _ _ he
    case panicked c=>exact hQ _ _ _ he
    case outgrown=>exact he
   case row r args=>exact Rows.mono h fun u w'' he=>go _ _ he
   all_goals exact h.elim
  ·cases x
   case panic u=>exact hQ _ _ _ h
   all_goals exact h.elim
 ·rw[if_neg hw] at h ⊢
  exact go _ _ h
def dx (P:Program) (md:Region.Mode) (ops:Array Oper) (Q:Exit->Act->World->Prop) (S:World->Prop) (st:Nat):Nat->Array Bool->Act->World->Prop
 | 0,l,a,w=>Region.ready md ops l=[]/\Q .normal a w
 | f+1,l,a,w=>(Region.ready md ops l=[]->Q .normal a w)/\∀ i∈Region.ready md ops l,Aw P ops Q i (fun a' w'=>((l.setIfInBounds i true).getD st true=false->S w')/\dx P md ops Q S st f (l.setIfInBounds i true) a' w') a w
theorem mU {i:Nat} {o:Oper} {v:Value} {a:Act} (hi:ops[i]? = some o) (hy:YieldsIf P ops S o v a) {K:Act->World->Prop} {w:World} (hS:S w) (h:K (a.put o.dst v) w):Aw P ops Q i K a w:=by
 unfold Aw
 rw[hi]
 rcases hy with ⟨hw,hv⟩ | ⟨hw,rfl⟩
 ·simp only[hw,if_true,Oper.wp,hv w hS,Oper.upon];exact h
 ·simp only[hw,Bool.false_eq_true,if_false];exact h
theorem dx.first {i:Nat} {oi:Oper} {v:Value} (hi:ops[i]? = some oi) (hs:Region.noSelect ops=true) (hQ:∀ c a w,Q (.panic c) (a.put oi.dst v) w->Q (.panic c) a w) (hst:nV md ops st i=true) :
 ∀ (f:Nat) (l:Array Bool) (a:Act) (w:World),Region.free md ops l i=true->(Region.ready md ops l).contains i=true->l.getD st true=false->YieldsIf P ops S oi v a->S w ->
  dx P md ops Q S st f (l.setIfInBounds i true) (a.put oi.dst v) w->dx P md ops Q S st (f+1) l a w:=by
 have hsel:=Region.noSelect_spec hs
 suffices hg:∀ (f:Nat) (l:Array Bool) (a:Act) (w:World),
  (∀ j oj,ops[j]? = some oj->j≠i->l.getD j true=false->(∀ e∈oj.after,Region.binds md e=true->e.on≠i)->oi.apart ops oj=true) ->
  i∈Region.ready md ops l->l.getD st true=false->YieldsIf P ops S oi v a->S w ->
  dx P md ops Q S st f (l.setIfInBounds i true) (a.put oi.dst v) w->dx P md ops Q S st (f+1) l a w from
  fun f l a w hf hr h1 h2 h3 h4=>hg f l a w (Region.free_spec hi hf) (by simpa using hr) h1 h2 h3 h4
 intro f
 induction f with
 | zero =>
   intro l a w _ hr _ hy hS H
   refine⟨fun h=>(by rw[h] at hr;cases hr),fun j hj=>?_⟩
   by_cases hji:j=i
   ·subst hji;exact mU hi hy hS ⟨fun _=>hS,H⟩
   ·have:=ready_mono hj hji
    rw[H.1] at this
    cases this
 | succ f ih =>
   intro l a w hfree hr hun hy hS H
   have hil:=(mem_ready.1 hr).1
   refine⟨fun h=>(by rw[h] at hr;cases hr),fun j hj=>?_⟩
   by_cases hji:j=i
   ·subst hji;exact mU hi hy hS ⟨fun _=>hS,H⟩
   ·have hjs:j≠st:=fun e=>iQ hst hil (e ▸ hj)
    have his:i≠st:=fun e=>iQ hst hil (e ▸ hr)
    obtain⟨hjun,oj,hoj,hall⟩:=mem_ready.1 hj
    have hnot:∀ e∈oj.after,Region.binds md e=true->e.on≠i:=fun e he hb heq=>by
     have h1:=hall e he hb
     rw[heq] at h1
     rcases Nat.lt_or_ge i l.size with h' | h'
     ·simp [h'] at hil h1;rw[hil] at h1;cases h1
     ·simp [Array.getElem?_eq_none h'] at h1
    have h2:=Dq hoj (hfree j oj hoj hji hjun hnot) (fun cs b=>hsel i oi cs b hi) (fun cs b=>hsel j oj cs b hoj) hQ hy (H.2 j (ready_mono hj hji))
    refine Cb (fun a' w' h3=>?_) h2
    have hS':S w':=h3.2.1 (by rw[getD_set_ne true hjs,getD_set_ne true his];exact hun)
    refine⟨fun _=>hS',ih (l.setIfInBounds j true) a' w' (fun k ok hk hki hku hno=>?_) (ready_mono hr (Ne.symm hji)) (by rw[getD_set_ne true hjs];exact hun) h3.1 hS' ?_⟩
    ·refine hfree k ok hk hki ?_ hno
     by_cases hjk:j=k
     ·subst hjk;exact hjun
     ·rw[getD_set_ne true hjk] at hku;exact hku
    ·rw[Array.setIfInBounds_comm _ _ hji]
     exact h3.2.2
theorem dx.tk (i d:Nat) {oi:Oper} {v:Value} {f:Nat} {l l':Array Bool} {a:Act} {t':Array Value} {w:World} (hS:S w) (h:dx P md ops Q S st f l' { a with tmps:=t' } w)
 (hi:ops[i]? = some oi:=by exact rfl) (hd:oi.dst=some d:=by exact rfl) (hs:Region.noSelect ops=true:=by kernel_rfl) (hst:nV md ops st i=true:=by kernel_rfl) (hf:Region.free md ops l i=true:=by kernel_rfl) (hr:(Region.ready md ops l).contains i=true:=by kernel_rfl) (hun:l.getD st true=false:=by kernel_rfl)
 (hQ:∀ c (a:Act) (t:Array Value) w,Q (.panic c) { a with tmps:=t } w->Q (.panic c) a w:=by exact fun _ _ _ _ h=>h) (hw:Region.wanted oi (yielded ops a.tmps)=true:=by kernel_rfl)
 (hy:∀ u,S u->(execOp a.eval oi).run P u=.ok (.value v) u:=by
   intro u hu
   have q:=HSC.out u hu
   repeat (obtain⟨_,q⟩:=q)
   go_simp
   try with_reducible rfl)
 (hl:l.setIfInBounds i true=l':=by
   try simp only[FG]
   exact rfl)
 (ht:a.tmps.setIfInBounds d v=t':=by
   try simp only[FG]
   exact rfl):dx P md ops Q S st (f+1) l a w:=by
 subst hl ht
 refine dx.first hi hs (fun c a' w' hh=>?_) hst f l a w hf hr hun (.inl ⟨hw,hy⟩) hS ?_
 ·rw[hd] at hh
  exact hQ c a' _ w' hh
 ·rw[hd]
  exact h
theorem dx.on (i:Nat) {o:Oper} {f:Nat} {l l':Array Bool} {a:Act} {w:World}
 (h:∀ K:Act->World->Prop,Shut (∀ a w,(l'.getD st true=false->S w)->dx P md ops Q S st f l' a w->K a w)->if Region.wanted o (yielded ops a.tmps)=true then Oper.wp P o a w K Q else K (a.put o.dst undef) w)
 (ho:ops[i]? = some o:=by exact rfl) (hr:Region.ready md ops l=[i]:=by kernel_rfl)
 (hl:l.setIfInBounds i true=l':=by
   try simp only[FG]
   exact rfl):dx P md ops Q S st (f+1) l a w:=by
 subst hl
 refine⟨fun h0=>(by rw[h0] at hr;cases hr),fun j hj=>?_⟩
 rw[hr,List.mem_singleton] at hj
 subst hj
 unfold Aw
 rw[ho]
 exact h _ (fun a w h1 h2=>⟨h1,h2⟩)
theorem dx.done {f:Nat} {l:Array Bool} {a:Act} {w:World} (hr:Region.ready md ops l=[]) (h:Q .normal a w):dx P md ops Q S st f l a w:=by
 cases f with
 | zero=>exact⟨hr,h⟩
 | succ f=>exact⟨fun _=>h,by rw[hr];simp⟩
def wW (o:Oper):Bool:=match o.op with
 | .defer _=>false
 | _=>true
theorem zR {o:Oper} {a:Act} {w:World} {K:Act->World->Prop} {l n:Nat} (hd:wW o=true) (h:Oper.wp P o a w K Q):o.wpIn (Fence.wide.inRound l) n P a w K Q:=by
 unfold Oper.wpIn
 have hne:∀ c,o.op ≠ .defer c:=by
  intro c e
  unfold wW at hd
  rw[e] at hd
  cases hd
 refine⟨fun _ _=>trivial,?_⟩
 rw[Fence.inRound_round,Oper.semAt_some l _ _ hne]
 unfold Oper.wp at h
 generalize (execOp a.eval o).run P w=r at h ⊢
 rcases r with ⟨m,w'⟩ | ⟨x,w'⟩
 ·cases m
  case value u=>exact h
  case skip=>exact h
  case defer d=>exact h
  case enter f args=>exact⟨fun e=>(by cases e),CallsIn.inRound l (callsIn_wide.2 h)⟩
  case row r args=>exact⟨fun e=>(by cases e),fun c cs _=>by
   obtain⟨v,w2,q,s⟩:=h c cs
   exact⟨v,w2,q,stepsIn_wide.2 s⟩⟩
  all_goals exact h.elim
 ·cases x
  case panic u=>exact h
  all_goals exact h.elim
theorem dx.inn {l n:Nat} (hnd:∀ (i:Nat) (o:Oper),ops[i]? = some o->wW o=true):∀ (f:Nat) (ls:Array Bool) (a:Act) (w:World),dx P md ops Q S st f ls a w->wpAnyIn (Fence.wide.inRound l) n P md ops Q f ls a w
 | 0,_,_,_,h=>h
 | f+1,ls,a,w,h=>⟨h.1,fun i hi=>by
   have h2:=h.2 i hi
   unfold Aw at h2
   unfold wpOpIn
   cases ho:ops[i]? with
   | none=>rw[ho] at h2;exact dx.inn hnd f _ _ _ h2.2
   | some o =>
     rw[ho] at h2
     simp only at h2 ⊢
     split
     ·rename_i hw
      rw[if_pos hw] at h2
      exact zR (hnd i o ho) (Oper.wp_mono (fun a w q=>dx.inn hnd f _ a w q.2) h2)
     ·rename_i hw
      rw[if_neg hw] at h2
      exact⟨fun _ _=>trivial,dx.inn hnd f _ _ _ h2.2⟩⟩
theorem dx.round (S:World->Prop) (st:Nat) {l n id:Nat} {a:Act} {w:World} {ol:List Oper} (hm:P.follows .mixedOrders=true) (hnd:ol.all wW=true) (h:dx P .any ol.toArray Q S st ol.toArray.size (Array.replicate ol.toArray.size false) a w.drew):(Code.region id ol.toArray true).wpIn (Fence.wide.inRound l) n P Q a w :=
 wpIn_region_any hm (dx.inn (fun i o ho=>List.all_eq_true.1 hnd o (by
  rw[List.getElem?_toArray] at ho
  exact FC ho)) _ _ _ _ h)
end
