/- Texts that are cut into tokens and read back: names, marks, literals, lists; plainly. What query.Shape and Show tell, plainly; a right query's text is read back. What is read of a query is right, and a fault's place stands in the line: plainly. -/
import Derived.Test.YtamjadghncnbcaaGreatDoorLcW
import Derived.Test.YtamjadghncnbcaaGreatDoorLfW
import Derived.Test.YtamjadghncnbcaaGreatDoorGaW
import Derived.Test.YtamjadghncnbcaaGreatDoorGbW
import Derived.Test.YtamjadghncnbcaaGreatDoorGmW
import Derived.Test.YtamjadghncnbcaaGreatDoorGcW
import Derived.Lib.Join
import Derived.Lib.ItoaLen
namespace Go.Proofs.YtamjadghncnbcaaGreatDoor
open Go.RowKit
set_option linter.unusedVariables false
section
variable {α β : Type}
end
def tmT (t:Trm):List UInt8:=if t.x=[] then showR t.k t.n t.t else t.x
def atT (a:Atm):List UInt8:=a.rel++40::(Lib.join (a.ts.map tmT) [44,32]++[41])
def qT (q:Qry):List UInt8:=q.name++40::(Lib.join (q.head.map id) [44,32]++41::32::58::45::32::Lib.join (q.atoms.map atT) [44,32])
def RangeQ (q:Qry):Prop:=∀ a∈q.atoms,∀ t∈a.ts,-9223372036854775808<=t.n/\t.n<=9223372036854775807
structure RightQ (q:Qry):Prop where
 name:isNameB q.name=true
 head:∀ h∈q.head,isNameB h=true
 rel:∀ a∈q.atoms,isNameB a.rel=true
 var:∀ a∈q.atoms,∀ t∈a.ts,t.x≠[]->isNameB t.x=true/\t.vl=⟨0,0,[]⟩
 lit:∀ a∈q.atoms,∀ t∈a.ts,t.x=[]->validB t.k t.n t.t=true
 some:q.atoms≠[]
 few:q.atoms.length<=6
 thin:∀ a∈q.atoms,a.ts.length<=5
 dup:¬ 0<=dupI q.head
 lack:¬ 0<=lackI (qVars q.atoms) q.head
def LitOkQ (t:Tok):Prop:=validB t.vk t.vn t.vt=true /\ -9223372036854775808<=t.vn/\t.vn<=9223372036854775807
def TokOkQ (N:Nat) (t:Tok):Prop:=((t.k=1->isNameB t.x=true)/\(t.k=2->LitOkQ t))/\0<=t.p/\t.p<=N
def TInvQ (N:Nat) (c:List Tok):Prop:=(∀ t∈c,TokOkQ N t)/\Ended c
theorem TInvQ.next {N:Nat} {t:Tok} {r:List Tok} (h:TInvQ N (t::r)) (hk:t.k≠0):TInvQ N r:=⟨fun u hu=>h.1 u (List.mem_cons_of_mem _ hu),h.2.cons hk⟩
section
variable {α : Type} {N : Nat}
def SurePQ (N:Nat) (Q:α->Prop):PR α->Prop
 | .bad a e=>0<=a/\a<=N/\e≠0
 | .ok x c=>Q x/\TInvQ N c
def SureQ (N:Nat) (P:List Tok->PR α) (Q:α->Prop):Prop:=∀ c,TInvQ N c->SurePQ N Q (P c)
theorem tk_sureQ (N:Nat) (k:Int) (xs:List (List UInt8)):SureQ N (tk k xs) (fun t=>TokOkQ N t/\t.k=k):=by
 intro c h
 cases c with
 | nil=>exact h.2.elim
 | cons t r =>
   have ht:=h.1 t List.mem_cons_self
   show SurePQ N _ (if t.k=k/\(xs=[]∨t.x∈xs) then .ok t (if k=0 then t::r else r) else .bad t.p 80)
   split
   ·rename_i hc
    refine⟨⟨ht,hc.1⟩,?_⟩
    split
    ·exact h
    ·rename_i hk
     exact h.next (by rw[hc.1];exact hk)
   ·exact⟨ht.2.1,ht.2.2,by decide⟩
theorem more_sureQ {P:List Tok->PR α} {Q:α->Prop} (hP:SureQ N P Q):∀ f,SureQ N (moreP P f) (fun xs=>∀ x∈xs,Q x)
 | 0,c,h=>⟨by simp,h⟩
 | f+1,c,h=>by
   unfold moreP
   split
   ·rename_i him
    have hd:TInvQ N (c.drop 1):=by
     obtain⟨t,r,rfl⟩:=h.2.some
     have hh:t.k=3/\t.x=[44]:=by simpa [isM] using him
     exact h.next (by rw[hh.1];decide)
    have h1:=hP (c.drop 1) hd
    cases ho:P (c.drop 1) with
    | bad a e=>rw[ho] at h1;exact h1
    | ok x c1 =>
      rw[ho] at h1
      have h2:=more_sureQ hP f c1 h1.2
      simp only
      cases hm:moreP P f c1 with
      | bad a e=>rw[hm] at h2;exact h2
      | ok xs c2 =>
        rw[hm] at h2
        refine⟨fun y hy=>?_,h2.2⟩
        rcases List.mem_cons.1 hy with rfl | hy
        ·exact h1.1
        ·exact h2.1 y hy
   ·exact⟨by simp,h⟩
theorem some_sureQ {P:List Tok->PR α} {Q:α->Prop} (hP:SureQ N P Q):SureQ N (someP P) (fun xs=>∀ x∈xs,Q x):=by
 intro c h
 have h1:=hP c h
 unfold someP
 cases ho:P c with
 | bad a e=>rw[ho] at h1;exact h1
 | ok x c1 =>
   rw[ho] at h1
   have h2:=more_sureQ hP c1.length c1 h1.2
   simp only
   cases hm:moreP P c1.length c1 with
   | bad a e=>rw[hm] at h2;exact h2
   | ok xs c2 =>
     rw[hm] at h2
     refine⟨fun y hy=>?_,h2.2⟩
     rcases List.mem_cons.1 hy with rfl | hy
     ·exact h1.1
     ·exact h2.1 y hy
theorem list_sureQ {P:List Tok->PR α} {Q:α->Prop} (hP:SureQ N P Q):SureQ N (listP P) (fun xs=>∀ x∈xs,Q x):=by
 intro c h
 have h1:=tk_sureQ N 3 [[40]] c h
 unfold listP
 cases ho:tk 3 [[40]] c with
 | bad a e=>rw[ho] at h1;exact h1
 | ok t c1 =>
   rw[ho] at h1
   simp only
   have h2:SurePQ N (fun xs=>∀ x∈xs,Q x) (if isM [41] c1=true then (.ok [] c1:PR (List α)) else someP P c1):=by
    split
    ·exact⟨by simp,h1.2⟩
    ·exact some_sureQ hP c1 h1.2
   cases hm:(if isM [41] c1=true then (.ok [] c1:PR (List α)) else someP P c1) with
   | bad a e=>rw[hm] at h2;exact h2
   | ok xs c2 =>
     rw[hm] at h2
     have h3:=tk_sureQ N 3 [[41]] c2 h2.2
     simp only
     cases hk:tk 3 [[41]] c2 with
     | bad a e=>rw[hk] at h3;exact h3
     | ok u c3=>rw[hk] at h3;exact⟨h2.1,h3.2⟩
end
theorem name_sureQ (N:Nat):SureQ N nameP (fun x=>isNameB x.1=true/\0<=x.2/\x.2<=N):=by
 intro c h
 have h1:=tk_sureQ N 1 [] c h
 unfold nameP
 cases ho:tk 1 [] c with
 | bad a e=>rw[ho] at h1;exact h1
 | ok t c1 =>
   rw[ho] at h1
   exact⟨⟨h1.1.1.1.1 h1.1.2,h1.1.1.2⟩,h1.2⟩
def GoodTm (N:Nat) (x:Trm × Int):Prop:=(x.1.x≠[]->isNameB x.1.x=true/\x.1.vl=⟨0,0,[]⟩)/\(x.1.x=[]->validB x.1.k x.1.n x.1.t=true)/\(-9223372036854775808<=x.1.n/\x.1.n<=9223372036854775807)/\0<=x.2/\x.2<=N
theorem term_sureQ (N:Nat):SureQ N termP (GoodTm N):=by
 intro c h
 unfold termP
 split
 ·have h1:=tk_sureQ N 2 [] c h
  cases ho:tk 2 [] c with
  | bad a e=>rw[ho] at h1;exact h1
  | ok t c1 =>
    rw[ho] at h1
    have hl:=h1.1.1.1.2 h1.1.2
    exact⟨⟨fun e=>absurd rfl e,fun _=>hl.1,hl.2,h1.1.1.2⟩,h1.2⟩
 ·have h1:=tk_sureQ N 1 [] c h
  cases ho:tk 1 [] c with
  | bad a e=>rw[ho] at h1;exact h1
  | ok t c1 =>
    rw[ho] at h1
    have hn:=h1.1.1.1.1 h1.1.2
    have hne:t.x≠[]:=fun e=>by rw[e] at hn;revert hn;decide
    exact⟨⟨fun _=>⟨hn,rfl⟩,fun e=>absurd e hne,⟨by simp,by simp⟩,h1.1.1.2⟩,h1.2⟩
def GoodAt (N:Nat) (x:AtP):Prop:=(isNameB x.1.1=true/\0<=x.1.2/\x.1.2<=N)/\∀ t∈x.2,GoodTm N t
theorem atom_sureQ (N:Nat):SureQ N atomP (GoodAt N):=by
 intro c h
 have h1:=name_sureQ N c h
 unfold atomP
 cases ho:nameP c with
 | bad a e=>rw[ho] at h1;exact h1
 | ok t c1 =>
   rw[ho] at h1
   have h2:=list_sureQ (term_sureQ N) c1 h1.2
   simp only
   cases hm:listP termP c1 with
   | bad a e=>rw[hm] at h2;exact h2
   | ok u c2 =>
     rw[hm] at h2
     exact⟨⟨h1.1,h2.1⟩,h2.2⟩
theorem limG_good {N:Nat}:∀ {l:List AtP} {x:Int × Int},(∀ a∈l,GoodAt N a)->limG l=some x->0<=x.1/\x.1<=N/\x.2≠0
 | [],x,_,h=>by cases h
 | a::l,x,hl,h=>by
   unfold limG at h
   cases h5:a.2[5]? with
   | some t =>
     rw[h5] at h
     simp only[Option.some.injEq] at h
     subst h
     have:=((hl a List.mem_cons_self).2 t (List.mem_of_getElem? h5)).2.2.2
     exact⟨this.1,this.2,show (91:Int)≠0 by decide⟩
   | none =>
     rw[h5] at h
     exact limG_good (fun b hb=>hl b (List.mem_cons_of_mem _ hb)) h
theorem chkP_sure {N:Nat} {n:List UInt8 × Int} {hs:List (List UInt8 × Int)} {l:List AtP} (hn:isNameB n.1=true) (hh:∀ x∈hs,isNameB x.1=true/\0<=x.2/\x.2<=N) (hl:∀ a∈l,GoodAt N a) (hne:l≠[]):match chkP n hs l with
 | .bad a e=>0<=a/\a<=N/\e≠0
 | .ok q _=>RightQ q/\RangeQ q:=by
 unfold chkP
 cases h6:limP l with
 | some x =>
   simp only
   unfold limP at h6
   cases h7:l[6]? with
   | some a =>
     rw[h7] at h6
     simp only[Option.some.injEq] at h6
     subst h6
     have:=(hl a (List.mem_of_getElem? h7)).1.2
     exact⟨this.1,this.2,show (90:Int)≠0 by decide⟩
   | none =>
     rw[h7] at h6
     exact limG_good hl h6
 | none =>
   simp only
   obtain⟨k1,k2⟩:=lim_small h6
   have hX:∀ (i:Nat) (h:List UInt8 × Int) (e:Int),e≠0->hs[i]? = some h->0<=h.2/\h.2<=N/\e≠0:=fun i h e he hi=>⟨(hh h (List.mem_of_getElem? hi)).2.1,(hh h (List.mem_of_getElem? hi)).2.2,he⟩
   by_cases hd0:0<=dupI (hs.map (·.1))
   ·obtain⟨j,hj,_,hjl⟩:=dup_range (hs.map (·.1)) [] 0 (show 0<=dupG [] (hs.map (·.1)) 0 from hd0)
    have hj2:dupI (hs.map (·.1))=(j:Int):=hj
    rw[List.length_map] at hjl
    have he:hs[(dupI (hs.map (·.1))).toNat]? = some (hs[j]'(by omega)):=by
     rw[hj2,Int.toNat_natCast]
     exact List.getElem?_eq_getElem (by omega)
    rw[he,decide_eq_true hd0]
    exact hX j _ 92 (by decide) (List.getElem?_eq_getElem (by omega))
   ·rw[decide_eq_false hd0]
    by_cases hl0:0<=lackI (qVars (qryOf n hs l).atoms) (hs.map (·.1))
    ·obtain⟨j,hj,hjl⟩:=idxP_range (xs:=(hs.map (·.1)).map strC) (show 0<=idxP _ ((hs.map (·.1)).map strC) from hl0)
     have hj2:lackI (qVars (qryOf n hs l).atoms) (hs.map (·.1))=(j:Int):=hj
     simp only[List.length_map] at hjl
     have he:hs[(lackI (qVars (qryOf n hs l).atoms) (hs.map (·.1))).toNat]? = some (hs[j]'hjl):=by
      rw[hj2,Int.toNat_natCast]
      exact List.getElem?_eq_getElem hjl
     rw[he,decide_eq_true hl0]
     generalize hs[(dupI (hs.map (·.1))).toNat]? = A
     rcases A with _ | x
     ·exact hX j _ 93 (by decide) (List.getElem?_eq_getElem hjl)
     ·exact hX j _ 93 (by decide) (List.getElem?_eq_getElem hjl)
    ·rw[decide_eq_false hl0]
     have hA:∀ a∈(qryOf n hs l).atoms,∃ z∈l,a=convA z:=fun a ha=>by
      rw[qryOf_atoms] at ha
      obtain⟨z,hz,rfl⟩:=List.mem_map.1 ha
      exact⟨z,hz,rfl⟩
     have hT:∀ a∈(qryOf n hs l).atoms,∀ t∈a.ts,∃ z,GoodTm N z/\t=z.1:=fun a ha t ht=>by
      obtain⟨z,hz,rfl⟩:=hA a ha
      simp only[convA] at ht
      obtain⟨y,hy,rfl⟩:=List.mem_map.1 ht
      exact⟨y,(hl z hz).2 y hy,rfl⟩
     have hd1:¬ 0<=dupI (qryOf n hs l).head:=hd0
     have hd2:¬ 0<=lackI (qVars (qryOf n hs l).atoms) (qryOf n hs l).head:=hl0
     suffices hfin:RightQ (qryOf n hs l)/\RangeQ (qryOf n hs l) by
      generalize hs[(dupI (hs.map (·.1))).toNat]? = A
      generalize hs[(lackI (qVars (qryOf n hs l).atoms) (hs.map (·.1))).toNat]? = B
      rcases A with _ | x<;>rcases B with _ | y<;>exact hfin
     refine⟨⟨hn,fun x hx=>?_,fun a ha=>?_,fun a ha t ht hx=>?_,fun a ha t ht hx=>?_,?_,?_,fun a ha=>?_,hd1,hd2⟩,fun a ha t ht=>?_⟩
     ·obtain⟨z,hz,rfl⟩:=List.mem_map.1 (show x∈hs.map (·.1) from hx)
      exact (hh z hz).1
     ·obtain⟨z,hz,rfl⟩:=hA a ha
      exact (hl z hz).1.1
     ·obtain⟨z,hz,rfl⟩:=hT a ha t ht
      exact hz.1 hx
     ·obtain⟨z,hz,rfl⟩:=hT a ha t ht
      exact hz.2.1 hx
     ·rw[qryOf_atoms]
      intro e
      exact hne (List.map_eq_nil_iff.1 e)
     ·rw[qryOf_atoms,List.length_map]
      exact k1
     ·obtain⟨z,hz,rfl⟩:=hA a ha
      simp only[convA,List.length_map]
      exact k2 z hz
     ·obtain⟨z,hz,rfl⟩:=hT a ha t ht
      exact hz.2.2.1
theorem some_ne {P:List Tok->PR AtP} {c c':List Tok} {l:List AtP} (h:someP P c=.ok l c'):l≠[]:=by
 unfold someP at h
 cases ho:P c with
 | bad a e=>rw[ho] at h;cases h
 | ok x c1 =>
   rw[ho] at h
   simp only at h
   cases hm:moreP P c1.length c1 with
   | bad a e=>rw[hm] at h;cases h
   | ok xs c2 =>
     rw[hm] at h
     simp only[PR.ok.injEq] at h
     rw[<-h.1]
     simp
theorem queryT_sure {N:Nat} {ts:List Tok} (h:TInvQ N ts):match queryT ts with
 | .bad a e=>0<=a/\a<=N/\e≠0
 | .ok q _=>RightQ q/\RangeQ q:=by
 have h1:=name_sureQ N ts h
 unfold queryT
 cases ho:nameP ts with
 | bad a e=>rw[ho] at h1;exact h1
 | ok n c1 =>
   rw[ho] at h1
   have h2:=list_sureQ (name_sureQ N) c1 h1.2
   simp only
   cases hl:listP nameP c1 with
   | bad a e=>rw[hl] at h2;exact h2
   | ok hs c2 =>
     rw[hl] at h2
     have h3:=tk_sureQ N 3 [[58,45]] c2 h2.2
     simp only
     cases hk:tk 3 [[58,45]] c2 with
     | bad a e=>rw[hk] at h3;exact h3
     | ok u c3 =>
       rw[hk] at h3
       have h4:=some_sureQ (atom_sureQ N) c3 h3.2
       simp only
       cases hm:someP atomP c3 with
       | bad a e=>rw[hm] at h4;exact h4
       | ok l c4 =>
         rw[hm] at h4
         have h5:=tk_sureQ N 0 [] c4 h4.2
         simp only
         cases hz:tk 0 [] c4 with
         | bad a e=>rw[hz] at h5;exact h5
         | ok v c5 =>
           simp only
           exact chkP_sure h1.1.1 h2.1 h4.1 (some_ne hm)
theorem run_nameQ {r:List UInt8} (hl:letB (bt r 0)=true) (hr:r≠[]) (h16:nameRun r<=16):isNameB (r.take (nameRun r))=true:=by
 have hp:=nameRun_pos hr hl
 have hle:=nameRun_le r
 have e:r.take (nameRun r)=r.takeWhile fun c=>letB c.toNat || digB c.toNat:=by
  have h1:=List.takeWhile_prefix (fun c:UInt8=>letB c.toNat || digB c.toNat) (l:=r)
  exact (List.prefix_iff_eq_take.1 h1).symm
 have hall:∀ c∈r.take (nameRun r),(letB c.toNat || digB c.toNat)=true:=by
  intro c hc
  rw[e] at hc
  exact List.all_eq_true.1 (List.all_takeWhile (p:=fun c:UInt8=>letB c.toNat || digB c.toNat) (l:=r)) c hc
 have hlen:(r.take (nameRun r)).length=nameRun r:=by rw[List.length_take];omega
 have hrun:nameRun (r.take (nameRun r))=(r.take (nameRun r)).length:=by
  have:=List.takeWhile_append_of_pos (p:=fun c:UInt8=>letB c.toNat || digB c.toNat) (l₁:=r.take (nameRun r)) (l₂:=[]) (by simpa using hall)
  rw[List.append_nil] at this
  show (List.takeWhile _ (r.take (nameRun r))).length=_
  rw[this]
  simp
 unfold isNameB
 simp only[decide_eq_true_eq]
 refine⟨?_,?_,hrun,by omega⟩
 ·intro e2
  rw[e2] at hlen
  simp at hlen
  omega
 ·have:=bt_take_app (l:=r) (y:=[]) (n:=nameRun r) (j:=0) (by omega) hle
  rw[List.append_nil] at this
  rw[this]
  exact hl
theorem one_litQ {r:List UInt8} {p:Int}:(oneS r p).2=0->(oneS r p).1.k=2->LitOkQ (oneS r p).1:=by
 have hs:=scan_good r
 unfold oneS litS
 repeat' split
 all_goals
  intro h g
  first
  | (simp at h;done)
  | (simp at g;done)
  | contradiction
  | (rename_i he;exact⟨(hs he).1,(hs he).2.1.1,(hs he).2.1.2⟩)
theorem LX_toksQ:∀ (m:Nat) (r:List UInt8) (p:Nat),r.length<=m->(LX r p).e=0->∀ t∈(LX r p).ts,((t.k=1->isNameB t.x=true)/\(t.k=2->LitOkQ t))/\(p:Int)<=t.p/\t.p<=((p+r.length:Nat):Int):=by
 intro m
 have hend:∀ (r:List UInt8) (p:Nat),r=[]∨bt r 0=35->∀ t∈(LX r p).ts,((t.k=1->isNameB t.x=true)/\(t.k=2->LitOkQ t))/\(p:Int)<=t.p/\t.p<=((p+r.length:Nat):Int):=by
  intro r p h t ht
  rw[LX_end h] at ht
  simp only[List.mem_singleton] at ht
  subst ht
  exact⟨⟨fun h=>by simp [endTok] at h,fun h=>by simp [endTok] at h⟩,by simp only[endTok];omega,by simp [endTok]⟩
 induction m with
 | zero =>
   intro r p h _
   exact hend r p (.inl (List.length_eq_zero_iff.1 (by omega)))
 | succ m ih =>
   intro r p h
   by_cases h0:r=[]∨bt r 0=35
   ·exact fun _=>hend r p h0
   ·have hr:r≠[]:=fun e=>h0 (.inl e)
    have hl:=List.length_pos_iff.2 hr
    by_cases hb:spB (bt r 0)=true
    ·rw[LX_blank h0 hb]
     intro he t ht
     have:=ih _ _ (by rw[List.length_drop];omega) he t ht
     rw[List.length_drop] at this
     exact⟨this.1,by omega,by omega⟩
    ·have hb':spB (bt r 0)=false:=by simpa using hb
     by_cases he:(oneS r p).2=0
     ·obtain⟨l1,_,l3⟩:=one_len he hr
      obtain⟨_,k2⟩:=one_kind he
      rw[LX_one h0 hb' he]
      split
      ·rename_i h9
       intro h8
       exact absurd h8 h9
      ·rename_i h9
       intro _ t ht
       simp only[List.mem_cons] at ht
       rcases ht with rfl | ht
       ·refine⟨⟨fun hk=>?_,fun hk=>one_litQ he hk⟩,by rw[k2];exact Int.le_refl _,by rw[k2];omega⟩
        obtain⟨a1,a2,a3⟩:=one_name he hk
        rw[a3]
        exact run_nameQ a1 hr a2
       ·have:=ih (r.drop (oneS r p).1.x.length) (p+(oneS r p).1.x.length) (by rw[List.length_drop];omega) (by simpa using h9) t ht
        rw[List.length_drop] at this
        exact⟨this.1,by omega,by omega⟩
     ·rw[LX_bad h0 hb' he]
      exact fun h=>absurd h he
theorem lex_toksQ {l:List UInt8} (h:(lexR l).e=0) (he:Ended (lexR l).ts):TInvQ l.length (lexR l).ts:=by
 by_cases hl:16384<l.length
 ·rw[lexR_long hl] at h
  exact absurd h (by decide)
 ·rw[lexR_short (by omega)] at h ⊢
  rw[lexR_short (by omega)] at he
  refine⟨fun t ht=>?_,he⟩
  have:=LX_toksQ _ l 0 (Nat.le_refl _) h t ht
  exact⟨this.1,by have:=this.2.1;omega,by have:=this.2.2;omega⟩
theorem lex_placeQ (l:List UInt8) (h:(lexR l).e≠0):0<=(lexR l).at_/\(lexR l).at_<=l.length:=by
 by_cases hl:16384<l.length
 ·rw[lexR_long hl]
  exact⟨by simp,by simp⟩
 ·rw[lexR_short (by omega)] at h ⊢
  obtain⟨n,ts,h1,h2,_⟩:=LX_fault _ l 0 (Nat.le_refl _) h
  rw[h1]
  exact⟨by omega,by omega⟩
end Go.Proofs.YtamjadghncnbcaaGreatDoor
