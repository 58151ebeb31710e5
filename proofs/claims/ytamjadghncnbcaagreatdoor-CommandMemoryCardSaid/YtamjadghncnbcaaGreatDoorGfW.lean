/- The document's line and its reading of a query, plainly; it tells what the program's reading tells. The document's line (osierref08.Line), walked: Next. The document's line, walked: Is, Fail, More, Want; a line by its state. What the document's Parse keeps in memory. The document's line, walked: Want. -/
import Derived.Test.YtamjadghncnbcaaGreatDoorGaW
import Derived.Test.YtamjadghncnbcaaGreatDoorGcW
namespace Go.Proofs.YtamjadghncnbcaaGreatDoor
open Go.RowKit
set_option linter.unusedVariables false
inductive LS where
 | bad (a e:Int)
 | ok (c:List Tok)
def headT:List Tok->Tok
 | []=>tok0
 | t::_=>t
def wantT (k:Int) (x:List UInt8) (c:List Tok):Tok × LS:=if (headT c).k=k/\(x=[]∨(headT c).x=x) then (headT c,.ok (c.drop 1)) else (tok0,.bad (headT c).p 80)
def wantS (k:Int) (x:List UInt8):LS->Tok × LS
 | .bad a e=>(tok0,.bad a e)
 | .ok c=>wantT k x c
def isT (k:Int) (x:List UInt8) (c:List Tok):Bool:=decide ((headT c).k=k/\(headT c).x=x)
def isS (k:Int) (x:List UInt8):LS->Bool
 | .bad _ _=>false
 | .ok c=>isT k x c
def moreS (n:Nat):LS->Bool × LS
 | .bad a e=>(false,.bad a e)
 | .ok c=>if n=0 then (!isT 3 [41] c,.ok c) else if isT 3 [44] c=true then (true,.ok (c.drop 1)) else (false,.ok c)
theorem moreS_ok (n:Nat) (c:List Tok):moreS n (.ok c)=if n=0 then (!isT 3 [41] c,.ok c) else if isT 3 [44] c=true then (true,.ok (c.drop 1)) else (false,.ok c):=rfl
def failS (a e:Int):LS->LS
 | .bad a' e'=>.bad a' e'
 | .ok _=>.bad a e
def meas:LS->Nat
 | .bad _ _=>0
 | .ok c=>c.length+1
def Good:LS->Prop
 | .bad _ e=>e≠0
 | .ok c=>Ended c
theorem want_good {k:Int} {x:List UInt8} {s:LS} (hk:k≠0) (h:Good s):Good (wantS k x s).2:=by
 cases s with
 | bad a e=>exact h
 | ok c =>
   obtain⟨t,r,rfl⟩:=Ended.some h
   show Good (wantT k x (t::r)).2
   unfold wantT
   split
   ·rename_i hc
    exact Ended.cons h (by have:=hc.1;simp only[headT] at this;omega)
   ·show (80:Int)≠0
    decide
theorem isT_k {k:Int} {x:List UInt8} {c:List Tok} (h:isT k x c=true):(headT c).k=k:=(of_decide_eq_true h).1
theorem more_good {n:Nat} {s:LS} (h:Good s):Good (moreS n s).2:=by
 cases s with
 | bad a e=>exact h
 | ok c =>
   obtain⟨t,r,rfl⟩:=Ended.some h
   rw[moreS_ok]
   split
   ·exact h
   ·split
    ·rename_i hc
     have:=isT_k hc
     simp only[headT] at this
     exact Ended.cons h (by omega)
    ·exact h
theorem more_true {n:Nat} {s:LS} (h:(moreS n s).1=true) (hg:Good s):∃ t r,(moreS n s).2=.ok (t::r)/\Ended (t::r):=by
 cases s with
 | bad a e=>cases h
 | ok c =>
   have hg2:Good (moreS n (.ok c)).2:=more_good hg
   have:∃ c',(moreS n (.ok c)).2=.ok c':=by
    rw[moreS_ok]
    split
    ·exact⟨_,rfl⟩
    ·split<;>exact⟨_,rfl⟩
   obtain⟨c',hc'⟩:=this
   rw[hc'] at hg2
   obtain⟨t,r,rfl⟩:=Ended.some hg2
   exact⟨t,r,hc',hg2⟩
theorem more_false {n:Nat} {s:LS} (h:(moreS n s).1=false):(moreS n s).2=s:=by
 cases s with
 | bad a e=>rfl
 | ok c =>
   rw[moreS_ok] at h ⊢
   split
   ·rfl
   ·rename_i h0
    rw[if_neg h0] at h
    split
    ·rename_i h1
     rw[if_pos h1] at h
     cases h
    ·rfl
theorem want_meas (k:Int) (x:List UInt8) (s:LS):meas (wantS k x s).2<=meas s:=by
 cases s with
 | bad a e=>exact Nat.le_refl _
 | ok c =>
   show meas (wantT k x c).2<=_
   unfold wantT
   split
   ·simp [meas]
   ·simp [meas]
theorem more_meas {n:Nat} {s:LS} (hg:Good s) (h:(moreS n s).1=true):1<=meas s/\meas (moreS n s).2<=meas s/\(n≠0->meas (moreS n s).2+1<=meas s):=by
 cases s with
 | bad a e=>cases h
 | ok c =>
   obtain⟨t,r,rfl⟩:=Ended.some hg
   rw[moreS_ok] at h ⊢
   by_cases h0:n=0
   ·rw[if_pos h0]
    exact⟨by simp [meas],Nat.le_refl _,fun e=>absurd h0 e⟩
   ·rw[if_neg h0] at h ⊢
    split
    ·exact⟨by simp [meas],by simp [meas],fun _=>by simp [meas]⟩
    ·rename_i h1
     rw[if_neg h1] at h
     cases h
section
variable {α : Type}
def gloop (step:LS->α × LS):Nat->LS->List α->LS × List α
 | 0,s,ys=>(s,ys)
 | f+1,s,ys=>if (moreS ys.length s).1=true then gloop step f (step (moreS ys.length s).2).2 (ys++[(step (moreS ys.length s).2).1]) else (s,ys)
theorem gloop_end (step:LS->α × LS) (f:Nat) {s:LS} {ys:List α} (h:(moreS ys.length s).1=false):gloop step f s ys=(s,ys):=by
 cases f with
 | zero=>rfl
 | succ f=>unfold gloop;rw[if_neg (by rw[h];decide)]
theorem gloop_go (step:LS->α × LS) (f:Nat) {s:LS} {ys:List α} (h:(moreS ys.length s).1=true):gloop step (f+1) s ys=gloop step f (step (moreS ys.length s).2).2 (ys++[(step (moreS ys.length s).2).1]):=by
 rw[gloop,if_pos h]
theorem gloop_bad (step:LS->α × LS) (f:Nat) (a e:Int) (ys:List α):gloop step f (.bad a e) ys=(.bad a e,ys):=gloop_end step f rfl
def StepOk (P:List Tok->PR α) (step:LS->α × LS):Prop:=∀ c,Ended c->match P c with
 | .bad a e=>(step (.ok c)).2=.bad a e
 | .ok x c'=>step (.ok c)=(x,.ok c')/\Ended c'
theorem isT_isM (m:List UInt8) (c:List Tok):isT 3 m c=isM m c:=by
 cases c with
 | nil=>simp [isT,isM,headT,tok0]
 | cons t r=>rfl
theorem isM_ended {m:List UInt8} {c:List Tok} (h:isM m c=true) (he:Ended c):Ended (c.drop 1):=by
 obtain⟨t,r,rfl⟩:=he.some
 have hh:t.k=3/\t.x=m:=by simpa [isM] using h
 exact Ended.cons he (by rw[hh.1];decide)
theorem gloop_rest {P:List Tok->PR α} {step:LS->α × LS} (hs:StepOk P step) (hl:Less P):∀ (f:Nat) (c:List Tok) (ys:List α),ys≠[]->Ended c->c.length+1<=f->match restP P ys c with
 | .bad a e=>(gloop step f (.ok c) ys).1=.bad a e
 | .ok xs c'=>gloop step f (.ok c) ys=(.ok c',xs)/\Ended c':=by
 intro f
 induction f with
 | zero=>intro c ys _ _ h;omega
 | succ f ih =>
   intro c ys hy he hf
   have hn:ys.length≠0:=fun e=>hy (List.eq_nil_of_length_eq_zero e)
   cases him:isM [44] c with
   | false =>
     have hm:moreS ys.length (.ok c)=(false,.ok c):=by
      rw[moreS_ok]
      rw[if_neg hn,isT_isM,him]
      rfl
     rw[restP_end ys him]
     refine⟨gloop_end step _ ?_,he⟩
     rw[hm]
   | true =>
     have hm:moreS ys.length (.ok c)=(true,.ok (c.drop 1)):=by
      rw[moreS_ok]
      rw[if_neg hn,isT_isM,him]
      rfl
     have he1:=isM_ended him he
     have hst:=hs _ he1
     have hg:=gloop_go step f (s:=.ok c) (ys:=ys) (by rw[hm])
     rw[hm] at hg
     simp only at hg
     rw[hg]
     cases hp:P (c.drop 1) with
     | bad a e =>
       rw[hp] at hst
       simp only at hst
       rw[restP_bad ys him hp,hst,gloop_bad]
     | ok x c1 =>
       rw[hp] at hst
       obtain⟨h1,h2⟩:=hst
       obtain⟨h3,h4⟩:=restP_ok hl ys him hp
       rw[h3,h1]
       exact ih c1 (ys++[x]) (by simp) h2 (by omega)
theorem gloop_list {P:List Tok->PR α} {step:LS->α × LS} (hs:StepOk P step) (hl:Less P) (f:Nat) (c:List Tok) (he:Ended c) (hf:c.length+2<=f):match (if isM [41] c=true then (.ok [] c:PR (List α)) else someP P c) with
 | .bad a e=>(gloop step f (.ok c) []).1=.bad a e
 | .ok xs c'=>gloop step f (.ok c) []=(.ok c',xs)/\Ended c':=by
 cases him:isM [41] c with
 | true =>
   rw[if_pos rfl]
   refine⟨gloop_end step _ ?_,he⟩
   show (!isT 3 [41] c)=false
   rw[isT_isM,him]
   rfl
 | false =>
   rw[if_neg (by decide)]
   obtain⟨f,rfl⟩:∃ g,f=g+1:=⟨f - 1,by omega⟩
   have hm:moreS ([]:List α).length (.ok c)=(true,.ok c):=by
    show (!isT 3 [41] c,LS.ok c)=_
    rw[isT_isM,him]
    rfl
   have hg:=gloop_go step f (s:=.ok c) (ys:=[]) (by rw[hm])
   rw[hm] at hg
   simp only[List.nil_append] at hg
   rw[hg]
   have hst:=hs _ he
   cases hp:P c with
   | bad a e =>
     rw[hp] at hst
     simp only at hst
     rw[some_bad hp,hst,gloop_bad]
   | ok x c1 =>
     rw[hp] at hst
     obtain⟨h1,h2⟩:=hst
     have h3:=hl _ _ _ hp
     rw[some_ok hp,h1]
     exact gloop_rest hs hl f c1 [x] (by simp) h2 (by omega)
def listS (step:LS->α × LS) (s:LS):List α × LS :=
 ((gloop step (meas (wantS 3 [40] s).2+1) (wantS 3 [40] s).2 []).2,(wantS 3 [41] (gloop step (meas (wantS 3 [40] s).2+1) (wantS 3 [40] s).2 []).1).2)
end
theorem want_tk0 {k:Int} {c:List Tok} (h:Ended c) (hk:k≠0):match tk k [] c with
 | .bad a e=>wantS k [] (.ok c)=(tok0,.bad a e)
 | .ok t r=>wantS k [] (.ok c)=(t,.ok r)/\Ended r:=by
 obtain⟨t,r,rfl⟩:=h.some
 by_cases hc:t.k=k
 ·have h1:tk k [] (t::r)=.ok t r:=by simp [tk,hc,hk]
  rw[h1]
  exact⟨by simp [wantS,wantT,headT,hc],h.cons (by omega)⟩
 ·have h1:tk k [] (t::r)=.bad t.p 80:=by simp [tk,hc]
  rw[h1]
  simp [wantS,wantT,headT,hc]
theorem want_tk1 {k:Int} {m:List UInt8} {c:List Tok} (h:Ended c) (hk:k≠0) (hm:m≠[]):match tk k [m] c with
 | .bad a e=>wantS k m (.ok c)=(tok0,.bad a e)
 | .ok t r=>wantS k m (.ok c)=(t,.ok r)/\Ended r:=by
 obtain⟨t,r,rfl⟩:=h.some
 by_cases hc:t.k=k/\t.x=m
 ·have h1:tk k [m] (t::r)=.ok t r:=by simp [tk,hc.1,hc.2,hk]
  rw[h1]
  refine⟨?_,h.cons (by omega)⟩
  show wantT k m (t::r)=_
  unfold wantT
  rw[if_pos ⟨hc.1,.inr hc.2⟩]
  rfl
 ·have h1:tk k [m] (t::r)=.bad t.p 80:=by
   unfold tk
   refine if_neg ?_
   rintro ⟨h2,h3⟩
   rcases h3 with h3 | h3
   ·cases h3
   ·exact hc ⟨h2,by simpa using h3⟩
  rw[h1]
  show wantT k m (t::r)=_
  unfold wantT
  rw[if_neg]
  ·rfl
  ·rintro ⟨h2,h3⟩
   rcases h3 with h3 | h3
   ·exact hm h3
   ·exact hc ⟨h2,h3⟩
theorem listS_ok {α:Type} {P:List Tok->PR α} {step:LS->α × LS} (hs:StepOk P step) (hl:Less P):StepOk (listP P) (listS step):=by
 intro c he
 have h1:=want_tk1 (k:=3) (m:=[40]) he (by decide) (by decide)
 unfold listP listS
 cases ho:tk 3 [[40]] c with
 | bad a e =>
   rw[ho] at h1
   simp only at h1
   simp only[h1,gloop_bad]
   rfl
 | ok t c1 =>
   rw[ho] at h1
   obtain⟨h1,he1⟩:=h1
   simp only[h1]
   have h2:=gloop_list hs hl (meas (.ok c1)+1) c1 he1 (by simp [meas])
   cases hq:(if isM [41] c1=true then (.ok [] c1:PR (List α)) else someP P c1) with
   | bad a e =>
     rw[hq] at h2
     simp only at h2 ⊢
     rw[h2]
     rfl
   | ok xs c2 =>
     rw[hq] at h2
     obtain⟨h2,he2⟩:=h2
     simp only[h2]
     have h3:=want_tk1 (k:=3) (m:=[41]) he2 (by decide) (by decide)
     cases h4:tk 3 [[41]] c2 with
     | bad a e =>
       rw[h4] at h3
       simp only at h3 ⊢
       rw[h3]
     | ok u c3 =>
       rw[h4] at h3
       obtain⟨h3,he3⟩:=h3
       simp only[h3]
       exact⟨trivial,he3⟩
abbrev NmP:=List UInt8 × Int
def nameS (s:LS):NmP × LS:=(((wantS 1 [] s).1.x,(wantS 1 [] s).1.p),(wantS 1 [] s).2)
def termS:LS->(Trm × Int) × LS
 | .bad a e=>((⟨[],0,0,[]⟩,0),.bad a e)
 | .ok c=>if (headT c).k=2 then ((⟨[],(headT c).vk,(headT c).vn,(headT c).vt⟩,(headT c).p),(wantT 2 [] c).2) else ((⟨(wantT 1 [] c).1.x,0,0,[]⟩,(headT c).p),(wantT 1 [] c).2)
def atomS (s:LS):AtP × LS:=(((nameS s).1,(listS termS (nameS s).2).1),(listS termS (nameS s).2).2)
theorem nameS_ok:StepOk nameP nameS:=by
 intro c he
 have h1:=want_tk0 (k:=1) he (by decide)
 unfold nameP nameS
 cases ho:tk 1 [] c with
 | bad a e =>
   rw[ho] at h1
   simp only at h1 ⊢
   rw[h1]
 | ok t c1 =>
   rw[ho] at h1
   obtain⟨h1,he1⟩:=h1
   simp only[h1]
   exact⟨trivial,he1⟩
theorem termS_ok:StepOk termP termS:=by
 intro c he
 have h1:=want_tk0 (k:=1) he (by decide)
 have h2:=want_tk0 (k:=2) he (by decide)
 obtain⟨t,r,rfl⟩:=he.some
 unfold termP
 by_cases hk:t.k=2
 ·have hl:litT (t::r)=true:=by simp [litT,hk]
  rw[if_pos hl]
  have ht:termS (.ok (t::r))=((⟨[],t.vk,t.vn,t.vt⟩,t.p),(wantT 2 [] (t::r)).2):=by
   unfold termS
   exact if_pos hk
  rw[ht]
  cases ho:tk 2 [] (t::r) with
  | bad a e =>
    rw[ho] at h2
    simp only at h2 ⊢
    exact congrArg Prod.snd h2
  | ok t' c1 =>
    rw[ho] at h2
    obtain⟨h2,he1⟩:=h2
    have e1:t=t':=by
     have:=congrArg Prod.fst h2
     simpa [wantS,wantT,headT,hk] using this
    subst e1
    refine⟨?_,he1⟩
    rw[show wantT 2 [] (t::r)=(t,.ok c1) from h2]
 ·have hl:¬ litT (t::r)=true:=by simp [litT,hk]
  rw[if_neg hl]
  have ht:termS (.ok (t::r))=((⟨(wantT 1 [] (t::r)).1.x,0,0,[]⟩,t.p),(wantT 1 [] (t::r)).2):=by
   unfold termS
   exact if_neg hk
  rw[ht]
  cases ho:tk 1 [] (t::r) with
  | bad a e =>
    rw[ho] at h1
    simp only at h1 ⊢
    exact congrArg Prod.snd h1
  | ok t' c1 =>
    rw[ho] at h1
    obtain⟨h1,he1⟩:=h1
    have hk1:t.k=1:=by
     by_cases hh:t.k=1
     ·exact hh
     ·simp [tk,hh] at ho
    have e1:t=t':=by
     have:=congrArg Prod.fst h1
     simpa [wantS,wantT,headT,hk1] using this
    subst e1
    refine⟨?_,he1⟩
    rw[show wantT 1 [] (t::r)=(t,.ok c1) from h1]
theorem atomS_ok:StepOk atomP atomS:=by
 intro c he
 have h1:=nameS_ok c he
 unfold atomP atomS
 cases ho:nameP c with
 | bad a e =>
   rw[ho] at h1
   simp only at h1 ⊢
   rw[h1]
   unfold listS
   simp only[wantS,gloop_bad]
 | ok t c1 =>
   rw[ho] at h1
   obtain⟨h1,he1⟩:=h1
   simp only[h1]
   have h2:=listS_ok termS_ok term_less c1 he1
   cases h3:listP termP c1 with
   | bad a e =>
     rw[h3] at h2
     exact h2
   | ok l c2 =>
     rw[h3] at h2
     obtain⟨h2,he2⟩:=h2
     simp only[h2]
     exact⟨trivial,he2⟩
def overOf (l:List AtP):List Int:=l.filterMap fun a=>a.2[5]?.map (·.2)
def limS (l:List AtP) (s:LS):LS:=match l[6]? with
 | some a=>failS a.1.2 90 s
 | none=>s
def overS (l:List AtP) (s:LS):LS:=match (overOf l)[0]? with
 | some p=>failS p 91 s
 | none=>s
def dupS (hs:List NmP):Nat->Nat->LS->LS
 | 0,_,s=>s
 | m+1,k,s=>dupS hs m (k+1) (match hs[k]? with
   | some h=>if idxI (hs.map (·.1)) h.1<k then failS h.2 92 s else s
   | none=>s)
def lackS (V:List (List UInt8)) (hs:List NmP):Nat->Nat->LS->LS
 | 0,_,s=>s
 | m+1,k,s=>match s with
   | .bad a e=>.bad a e
   | .ok c=>lackS V hs m (k+1) (match hs[k]? with
     | some h=>if h.1∈V then .ok c else .bad h.2 93
     | none=>.ok c)
def atomsS (s:LS):LS × List AtP:=gloop atomS (meas (atomS s).2) (atomS s).2 [(atomS s).1]
def endS (n:NmP) (hs:List NmP) (l:List AtP) (s:LS):LS :=
 lackS (qVars (qryOf n hs l).atoms) hs hs.length 0 (dupS hs hs.length 0 (overS l (limS l s)))
def outS (s:LS) (q:Qry):PR Qry:=match s with
 | .bad a e=>.bad a e
 | .ok _=>.ok q []
def refQ (s:LS):PR Qry :=
 outS (endS (nameS s).1 (listS nameS (nameS s).2).1 (atomsS (wantS 3 [58,45] (listS nameS (nameS s).2).2).2).2 (wantS 0 [] (atomsS (wantS 3 [58,45] (listS nameS (nameS s).2).2).2).1).2)
  (qryOf (nameS s).1 (listS nameS (nameS s).2).1 (atomsS (wantS 3 [58,45] (listS nameS (nameS s).2).2).2).2)
theorem dupS_bad (hs:List NmP) (a e:Int):∀ (m k:Nat),dupS hs m k (.bad a e)=.bad a e
 | 0,_=>rfl
 | m+1,k=>by
   unfold dupS
   cases hs[k]? with
   | none=>exact dupS_bad hs a e m (k+1)
   | some h =>
     simp only
     split<;>exact dupS_bad hs a e m (k+1)
theorem lackS_bad (V:List (List UInt8)) (hs:List NmP) (a e:Int):∀ (m k:Nat),lackS V hs m k (.bad a e)=.bad a e
 | 0,_=>rfl
 | m+1,k=>rfl
theorem limS_bad (l:List AtP) (a e:Int):limS l (.bad a e)=.bad a e:=by
 unfold limS
 cases l[6]? <;> rfl
theorem overS_bad (l:List AtP) (a e:Int):overS l (.bad a e)=.bad a e:=by
 unfold overS
 cases (overOf l)[0]? <;> rfl
theorem endS_bad (n:NmP) (hs:List NmP) (l:List AtP) (a e:Int):endS n hs l (.bad a e)=.bad a e:=by
 unfold endS
 rw[limS_bad,overS_bad,dupS_bad,lackS_bad]
theorem nameS_bad (a e:Int):(nameS (.bad a e)).2=.bad a e:=rfl
theorem listS_bad {α:Type} (step:LS->α × LS) (a e:Int):(listS step (.bad a e)).2=.bad a e:=by
 unfold listS
 simp only[wantS,gloop_bad]
theorem atomS_bad (a e:Int):(atomS (.bad a e)).2=.bad a e:=by
 unfold atomS
 simp only[nameS_bad,listS_bad]
theorem atomsS_bad (a e:Int):(atomsS (.bad a e)).1=.bad a e:=by
 unfold atomsS
 rw[atomS_bad,gloop_bad]
theorem refQ_bad (a e:Int):refQ (.bad a e)=.bad a e:=by
 unfold refQ
 rw[nameS_bad,listS_bad]
 show outS (endS _ _ (atomsS (.bad a e)).2 (wantS 0 [] (atomsS (.bad a e)).1).2) _=_
 rw[atomsS_bad]
 show outS (endS _ _ _ (.bad a e)) _=_
 rw[endS_bad]
 rfl
theorem limG_over:∀ (l:List AtP),(match limG l with
 | some x=>(overOf l)[0]? = some x.1/\x.2=91
 | none=>(overOf l)[0]? = none)
 | []=>rfl
 | a::r=>by
   have h:=limG_over r
   unfold limG overOf
   rw[List.filterMap_cons]
   cases h5:a.2[5]? with
   | some t=>simp
   | none=>simpa [overOf] using h
theorem dupS_run (hs:List NmP) (c:List Tok):∀ (m k:Nat),k+m=hs.length ->
 dupS hs m k (.ok c)=match hs[(dupG ((hs.map (·.1)).take k) ((hs.map (·.1)).drop k) k).toNat]?,decide (0<=dupG ((hs.map (·.1)).take k) ((hs.map (·.1)).drop k) k) with
  | some h,true=>.bad h.2 92
  | _,_=>.ok c
 | 0,k,hk=>by
   have:(hs.map (·.1)).drop k=[]:=List.drop_of_length_le (by simp;omega)
   rw[this]
   simp [dupG,dupS]
 | m+1,k,hk=>by
   obtain⟨h,hh⟩:∃ h,hs[k]? = some h:=⟨hs[k]'(by omega),List.getElem?_eq_getElem (by omega)⟩
   have hx:(hs.map (·.1))[k]? = some h.1:=by simp [hh]
   unfold dupS
   rw[hh]
   simp only
   by_cases hm:h.1∈(hs.map (·.1)).take k
   ·rw[dup_hit hx hm]
    have hi:idxI (hs.map (·.1)) h.1<(k:Int):=by
     unfold idxI
     rw[if_pos (List.mem_of_mem_take hm)]
     have e:(hs.map (·.1)).idxOf h.1=((hs.map (·.1)).take k).idxOf h.1:=by
      conv=>lhs;rw[<-List.take_append_drop k (hs.map (·.1))]
      rw[List.idxOf_append,if_pos hm]
     rw[e]
     have:=List.idxOf_lt_length_of_mem hm
     rw[List.length_take] at this
     omega
    rw[if_pos hi,Int.toNat_natCast,hh]
    simp only[failS,dupS_bad]
    simp
   ·rw[dup_step hx hm,<-dupS_run hs c m (k+1) (by omega)]
    rw[if_neg]
    rw[idxI_hit hx hm]
    omega
theorem lackI_none {V:List (List UInt8)} {l:List (List UInt8)} (h:∀ s∈l,s∈V):lackI V l = -1:=by
 unfold lackI
 refine idxP_miss ?_
 intro y hy
 obtain⟨s,hs,rfl⟩:=List.mem_map.1 hy
 simpa [strC] using h s hs
theorem lackI_hit {V:List (List UInt8)} {l:List (List UInt8)} {k:Nat} {s:List UInt8} (hk:l[k]? = some s) (hs:s ∉ V) (h:∀ s∈l.take k,s∈V):lackI V l=k:=by
 unfold lackI
 refine idxP_hit (x:=strC s) (by simp [hk]) (by simpa [strC] using hs) ?_
 intro y hy
 rw[<-List.map_take] at hy
 obtain⟨s,hs,rfl⟩:=List.mem_map.1 hy
 simpa [strC] using h s hs
theorem lackS_run (V:List (List UInt8)) (hs:List NmP) (c:List Tok):∀ (m k:Nat),k+m=hs.length->(∀ s∈(hs.map (·.1)).take k,s∈V) ->
 lackS V hs m k (.ok c)=match hs[(lackI V (hs.map (·.1))).toNat]?,decide (0<=lackI V (hs.map (·.1))) with
  | some h,true=>.bad h.2 93
  | _,_=>.ok c
 | 0,k,hk,hp=>by
   rw[lackI_none (fun s hs'=>hp s (by rw[List.take_of_length_le (by simp;omega)];exact hs'))]
   simp [lackS]
 | m+1,k,hk,hp=>by
   obtain⟨h,hh⟩:∃ h,hs[k]? = some h:=⟨hs[k]'(by omega),List.getElem?_eq_getElem (by omega)⟩
   have hx:(hs.map (·.1))[k]? = some h.1:=by simp [hh]
   unfold lackS
   rw[hh]
   simp only
   by_cases hm:h.1∈V
   ·rw[if_pos hm]
    refine lackS_run V hs c m (k+1) (by omega) ?_
    intro s hs'
    rw[List.take_add_one,hx] at hs'
    rcases List.mem_append.1 hs' with h1 | h1
    ·exact hp s h1
    ·simp at h1
     rw[h1]
     exact hm
   ·rw[if_neg hm,lackS_bad,lackI_hit hx hm hp,Int.toNat_natCast,hh]
    simp
theorem endS_ok (n:NmP) (hs:List NmP) (l:List AtP) (c:List Tok):outS (endS n hs l (.ok c)) (qryOf n hs l)=chkP n hs l:=by
 unfold endS chkP limP limS
 cases h6:l[6]? with
 | some a =>
   simp only[failS]
   rw[overS_bad,dupS_bad,lackS_bad]
   rfl
 | none =>
   simp only
   have hg:=limG_over l
   unfold overS
   cases hl:limG l with
   | some x =>
     rw[hl] at hg
     obtain⟨h1,h2⟩:=hg
     rw[h1]
     simp only[failS]
     rw[dupS_bad,lackS_bad,h2]
     rfl
   | none =>
     rw[hl] at hg
     simp only at hg
     rw[hg]
     simp only
     have hd:=dupS_run hs c hs.length 0 (by omega)
     rw[hd]
     simp only[List.take_zero,List.drop_zero]
     have hk:=lackS_run (qVars (qryOf n hs l).atoms) hs c hs.length 0 (by omega) (by simp)
     show outS (lackS _ hs hs.length 0 (match hs[(dupI (hs.map (·.1))).toNat]?,decide (0<=dupI (hs.map (·.1))) with
      | some h,true=>.bad h.2 92
      | _,_=>.ok c)) _=_
     generalize hs[(dupI (hs.map (·.1))).toNat]? = A
     generalize decide (0<=dupI (hs.map (·.1)))=B
     generalize hs[(lackI (qVars (qryOf n hs l).atoms) (hs.map (·.1))).toNat]? = C at hk ⊢
     generalize decide (0<=lackI (qVars (qryOf n hs l).atoms) (hs.map (·.1)))=D at hk ⊢
     rcases A with _ | h
     ·simp only
      rw[hk]
      rcases C with _ | h2<;>rcases D with _ | _<;>rfl
     ·rcases B with _ | _
      ·simp only
       rw[hk]
       rcases C with _ | h2<;>rcases D with _ | _<;>rfl
      ·simp only
       rw[lackS_bad]
       rfl
theorem refQ_ok {ts:List Tok} (h:Ended ts):refQ (.ok ts)=queryT ts:=by
 have h1:=nameS_ok ts h
 unfold refQ queryT
 cases ho:nameP ts with
 | bad a e =>
   rw[ho] at h1
   simp only at h1 ⊢
   rw[h1,listS_bad]
   show outS (endS _ _ (atomsS (.bad a e)).2 (wantS 0 [] (atomsS (.bad a e)).1).2) _=_
   rw[atomsS_bad]
   show outS (endS _ _ _ (.bad a e)) _=_
   rw[endS_bad]
   rfl
 | ok n c1 =>
   rw[ho] at h1
   obtain⟨h1,he1⟩:=h1
   simp only[h1]
   have h2:=listS_ok nameS_ok name_less c1 he1
   cases h3:listP nameP c1 with
   | bad a e =>
     rw[h3] at h2
     simp only at h2 ⊢
     rw[h2]
     show outS (endS _ _ (atomsS (.bad a e)).2 (wantS 0 [] (atomsS (.bad a e)).1).2) _=_
     rw[atomsS_bad]
     show outS (endS _ _ _ (.bad a e)) _=_
     rw[endS_bad]
     rfl
   | ok hs c2 =>
     rw[h3] at h2
     obtain⟨h2,he2⟩:=h2
     simp only[h2]
     have h4:=want_tk1 (k:=3) (m:=[58,45]) he2 (by decide) (by decide)
     cases h5:tk 3 [[58,45]] c2 with
     | bad a e =>
       rw[h5] at h4
       simp only at h4 ⊢
       rw[h4]
       show outS (endS _ _ (atomsS (.bad a e)).2 (wantS 0 [] (atomsS (.bad a e)).1).2) _=_
       rw[atomsS_bad]
       show outS (endS _ _ _ (.bad a e)) _=_
       rw[endS_bad]
       rfl
     | ok u c3 =>
       rw[h5] at h4
       obtain⟨h4,he3⟩:=h4
       simp only[h4]
       have h6:=atomS_ok c3 he3
       cases h7:atomP c3 with
       | bad a e =>
         rw[h7] at h6
         simp only at h6
         rw[some_bad h7]
         simp only
         unfold atomsS
         rw[h6]
         simp only[gloop_bad]
         show outS (endS _ _ _ (.bad a e)) _=_
         rw[endS_bad]
         rfl
       | ok x c4 =>
         rw[h7] at h6
         obtain⟨h6,he4⟩:=h6
         rw[some_ok h7]
         unfold atomsS
         simp only[h6]
         have h8:=gloop_rest atomS_ok atom_less (meas (.ok c4)) c4 [x] (by simp) he4 (by simp [meas])
         cases h9:restP atomP [x] c4 with
         | bad a e =>
           rw[h9] at h8
           simp only at h8 ⊢
           rw[h8]
           show outS (endS _ _ _ (.bad a e)) _=_
           rw[endS_bad]
           rfl
         | ok l c5 =>
           rw[h9] at h8
           obtain⟨h8,he5⟩:=h8
           simp only[h8]
           obtain⟨t,r,rfl⟩:=he5.some
           by_cases ht:t.k=0
           ·have e1:tk 0 [] (t::r)=.ok t (t::r):=by simp [tk,ht]
            have e2:(wantS 0 [] (.ok (t::r))).2=.ok r:=by simp [wantS,wantT,headT,ht]
            rw[e1,e2]
            exact endS_ok n hs l r
           ·have e1:tk 0 [] (t::r)=.bad t.p 80:=by simp [tk,ht]
            have e2:(wantS 0 [] (.ok (t::r))).2=.bad t.p 80:=by simp [wantS,wantT,headT,ht]
            rw[e1,e2,endS_bad]
            rfl
structure Ld (w:World) (b:Nat) (ts:List Tok) (i:Nat) (a e:Int) (vt:Value):Prop where
 blk:Blk w b 101 #[vt,.int .i64 i,.int .i64 a,.int .i64 e]
 row:w.ownsRow 0 105 6 vt ts.length (tcells ts)
 len:ts.length<=100000
 il:i<=100001
theorem Ld.keep {w w':World} {b:Nat} {ts:List Tok} {i:Nat} {a e:Int} {vt:Value} (h:Ld w b ts i a e vt) (hb:Below w.heap.size w w'):Ld w' b ts i a e vt :=
 have hm:Mod (fun _=>False) w w':=Mod.ofBelow hb
 ⟨h.blk.mod hm (fun f=>f),hm.ownsRow h.row (fun _ _ f=>f),h.len,h.il⟩
theorem Ld.at {w:World} {b:Nat} {ts:List Tok} {i:Nat} {a e:Int} {vt:Value} (h:Ld w b ts i a e vt) {j:Nat} {t:Tok} (ht:ts[j]? = some t):∃ g cap,vt=.slice (some ⟨g,0,none⟩) ts.length cap/\ts.length<=cap/\cap<=maxLen/\g<w.heap.size /\
 w.cell? ⟨g,j * 6,none⟩=some (.int .i64 t.k)/\w.cell? ⟨g,j * 6+1,none⟩=some (.string ⟨t.x.toArray⟩)/\w.cell? ⟨g,j * 6+2,none⟩=some (.int .i64 t.vk)/\w.cell? ⟨g,j * 6+3,none⟩=some (.int .i64 t.vn)/\w.cell? ⟨g,j * 6+4,none⟩=some (.string ⟨t.vt.toArray⟩)/\w.cell? ⟨g,j * 6+5,none⟩=some (.int .i64 t.p):=by
 have hs:=h.row
 have hl:j<ts.length:=(List.getElem?_eq_some_iff.1 ht).1
 have hln:=tcells_len ts
 rcases hs.2 with ⟨_,h0⟩ | ⟨g,cap,cur,rfl,_,hg,hnc,hcm,_⟩
 ·omega
 ·obtain⟨h0,h1,h2,h3,h4,h5⟩:=tcells_at ts j t ht
  exact⟨g,cap,rfl,hnc,hcm,(Array.getElem?_eq_some_iff.1 hg).1,(hs.cellAt _ (by omega)).trans h0,(hs.cellAt _ (by omega)).trans h1,(hs.cellAt _ (by omega)).trans h2,(hs.cellAt _ (by omega)).trans h3,(hs.cellAt _ (by omega)).trans h4,(hs.cellAt _ (by omega)).trans h5⟩
theorem headT_drop (ts:List Tok) (i:Nat):headT (ts.drop i)=(ts[i]?).getD tok0:=by
 cases h:ts.drop i with
 | nil =>
   have:ts[i]? = none:=List.getElem?_eq_none (List.drop_eq_nil_iff.1 h)
   rw[this]
   rfl
 | cons t r =>
   have:=congrArg (·[0]?) h
   simp at this
   rw[this]
   rfl
set_option maxHeartbeats 1000000 in
set_option maxRecDepth 100000 in
theorem next_any (w:World) (b:Nat) (ts:List Tok) (i:Nat) (a e:Int) (vt:Value) (h:Ld w b ts i a e vt) :
 Calls Tryz.prog 53 #[.pointer (some ⟨b,0,none⟩)] w fun e w'=>e=.returned (headT (ts.drop i)).v/\Below w.heap.size w w':=by
 have hr:=h.blk.lt
 have x0:=h.blk.cell 0
 have x1:=h.blk.cell 1
 have hlen:=h.len
 have hi:=h.il
 simp at x0 x1
 rw[headT_drop]
 by_cases hl:i<ts.length
 ·obtain⟨t,ht⟩:∃ t,ts[i]? = some t:=⟨ts[i],List.getElem?_eq_getElem hl⟩
  rw[ht]
  simp only[Option.getD_some]
  obtain⟨g,cap,rfl,hnc,hcm,hg,k0,k1,k2,k3,k4,k5⟩:=h.at ht
  unfold maxLen at hcm
  have hd:decide ((i:Int)<0)=false:=by simp
  have hd2:decide ((ts.length:Int)<=(i:Int))=false:=by simp;omega
  have hd3:decide (ts.length<=i)=false:=by simp;omega
  have hd4:decide ((i:Int)<(ts.length:Int))=true:=by simp;omega
  have hd5:decide (i<ts.length)=true:=by simp;omega
  unfold Tok.v
  clear h ht
  go_enter Tryz.func53,Tryz.ntmps53
  go_wp2_with fail
  go_quiet (fail)
  go_wp2_with fail
  go_region
  all_goals
   go_wp2_with fail
   refine bodyPost_ret (v:=t.v) (by simp [results,Tryz.results53,go_sem,Tok.v]) rfl ⟨rfl,?_⟩
   exact bstore6' (bdrewN (balloc (Below.refl _ _) _) _) _ _ _ _ _ _
 ·have hno:ts[i]? = none:=List.getElem?_eq_none (by omega)
  rw[hno]
  simp only[Option.getD_none]
  have hd4:decide ((i:Int)<(ts.length:Int))=false:=by simp;omega
  have hd5:decide (i<ts.length)=false:=by simp;omega
  obtain⟨ad,cap,rfl⟩:=own_sl h.row
  unfold Tok.v tok0
  clear h hno
  go_enter Tryz.func53,Tryz.ntmps53
  go_wp2_with fail
  go_quiet (fail)
  go_wp2_with fail
  refine bodyPost_ret (v:=tok0.v) (by simp [results,Tryz.results53,go_sem,Tok.v,tok0]) rfl ⟨rfl,?_⟩
  exact bstore6' (bdrewN (balloc (Below.refl _ _) _) _) _ _ _ _ _ _
def Ln (w:World) (b:Nat) (s:LS) (vt:Value):Prop:=∃ ts i a e,Ld w b ts i a e vt/\match s with
 | .bad a' e'=>a=a'/\e=e'
 | .ok c=>e=0/\ts.drop i=c
section
variable {w w' : World} {b : Nat} {s : LS} {vt : Value}
theorem Ln.keep (h:Ln w b s vt) (hb:Below w.heap.size w w'):Ln w' b s vt:=by
 obtain⟨ts,i,a,e,h1,h2⟩:=h
 exact⟨ts,i,a,e,h1.keep hb,h2⟩
theorem Ln.mt {B:Nat} {Ts:List TypeId} (h:Ln w b s vt) (hm:MT B Ts w w') (h1:101 ∉ Ts) (h2:105 ∉ Ts):Ln w' b s vt:=by
 obtain⟨ts,i,a,e,h3,h4⟩:=h
 exact⟨ts,i,a,e,⟨h3.blk.mt hm h1,hm.ownsRow h3.row h2,h3.len,h3.il⟩,h4⟩
theorem Ln.lt (h:Ln w b s vt):b<w.heap.size:=by
 obtain⟨ts,i,a,e,h3,_⟩:=h
 exact h3.blk.lt
end
set_option maxHeartbeats 1000000 in
set_option maxRecDepth 100000 in
theorem next_ln {w:World} {b:Nat} {t:Tok} {r:List Tok} {vt:Value} (h:Ln w b (.ok (t::r)) vt) :
 Calls Tryz.prog 53 #[.pointer (some ⟨b,0,none⟩)] w fun e w'=>e=.returned t.v/\Below w.heap.size w w':=by
 obtain⟨ts,i,a,e,h1,rfl,h2⟩:=h
 have:=next_any w b ts i a 0 vt h1
 rwa [h2] at this
theorem fail_ln {w:World} {b:Nat} {s:LS} {vt:Value} (h:Ln w b s vt) (hg:∀ a e,s=.bad a e->e≠0) (p f:Int) :
 Calls Tryz.prog 113 #[.pointer (some ⟨b,0,none⟩),.int .i64 p,.int .i64 f] w fun e w'=>e=.returned (.tuple #[])/\Ln w' b (failS p f s) vt/\MT b [101] w w':=by
 obtain⟨ts,i,a,e,h1,h2⟩:=h
 have x3:=h1.blk.cell 3
 have hr:=h1.blk.lt
 have x2:=h1.blk.cell 2
 have y2:=h1.blk.frozen 2
 have y3:=h1.blk.frozen 3
 simp only[List.getElem?_toArray,List.getElem?_cons_zero,List.getElem?_cons_succ] at x2 x3
 cases s with
 | bad a' e' =>
   obtain⟨rfl,rfl⟩:=h2
   have q1:(e == 0)=false:=by simpa using hg _ _ rfl
   have H1:=Lib.hid h1
   clear h1 hg
   go_enter Tryz.func113,Tryz.ntmps113
   go_wp2_with fail
   exact bodyPost_end (v:=.tuple #[]) (by simp [results,Tryz.results113,go_sem]) rfl ⟨rfl,⟨ts,i,a,e,H1.out,rfl,rfl⟩,MT.refl _⟩
 | ok c =>
   obtain⟨rfl,h2⟩:=h2
   have hs:=(h1.blk.set_ 2 (.int .i64 p)).set_ 3 (.int .i64 f)
   simp only[List.setIfInBounds_toArray,List.set_cons_succ,List.set_cons_zero] at hs
   have m1:MT b [101] w ((w.setCell ⟨b,2,none⟩ (.int .i64 p)).setCell ⟨b,3,none⟩ (.int .i64 f)):=(MT.setCell (MT.refl w) h1.blk (by simp) (Nat.le_refl _) _).setCell (h1.blk.set_ 2 (.int .i64 p)) (by simp) (Nat.le_refl _) _
   have hl:Ld ((w.setCell ⟨b,2,none⟩ (.int .i64 p)).setCell ⟨b,3,none⟩ (.int .i64 f)) b ts i p f vt:=⟨hs,m1.ownsRow h1.row (by decide),h1.len,h1.il⟩
   have HL:=Lib.hid hl
   have M1:=Lib.hid m1
   clear h1 hs m1 hl h2 hg
   go_enter Tryz.func113,Tryz.ntmps113
   go_wp2_with fail
   exact bodyPost_end (v:=.tuple #[]) (by simp [results,Tryz.results113,go_sem]) rfl ⟨rfl,⟨ts,i,p,f,HL.out,rfl,rfl⟩,M1.out⟩
set_option maxHeartbeats 1000000 in
set_option maxRecDepth 100000 in
theorem is_ln {w:World} {b:Nat} {s:LS} {vt:Value} (h:Ln w b s vt) (hg:Good s) (k:Int) (x:List UInt8) :
 Calls Tryz.prog 115 #[.pointer (some ⟨b,0,none⟩),.int .i64 k,.string ⟨x.toArray⟩] w fun e w'=>e=.returned (.bool (isS k x s))/\Below w.heap.size w w':=by
 obtain⟨ts,i,a,e,h1,h2⟩:=h
 have x3:=h1.blk.cell 3
 have hr:=h1.blk.lt
 simp only[List.getElem?_toArray,List.getElem?_cons_zero,List.getElem?_cons_succ] at x3
 cases s with
 | bad a' e' =>
   obtain⟨rfl,rfl⟩:=h2
   have q1:(e == 0)=false:=by simpa using (show e≠0 from hg)
   clear h1 hg
   go_enter Tryz.func115,Tryz.ntmps115
   go_wp2_with fail
   go_ret
   exact⟨rfl,Below.refl _ _⟩
 | ok c =>
   obtain⟨rfl,h2⟩:=h2
   obtain⟨t,r,rfl⟩:=Ended.some hg
   have HP:=Lib.hid (fun W (hW:Ld W b ts i a 0 vt)=>next_any W b ts i a 0 vt hW)
   rw[h2] at HP
   simp only[headT] at HP
   have H1:=Lib.hid h1
   have hres:isS k x (.ok (t::r))=decide (t.k=k/\t.x=x):=rfl
   rw[hres]
   clear h1 hg h2 hres
   have hx:(t.x=x) ↔ ((⟨t.x.toArray⟩:ByteArray)=⟨x.toArray⟩):=bytes_eq.symm
   unfold Tok.v at HP
   have hf0:∀ (a b c d e f:Value) (w:World),(Instr.field 105 (.agg #[a,b,c,d,e,f]) 0).run Tryz.prog w=.ok a w:=fun _ _ _ _ _ _ _=>by kernel_rfl
   have hf1:∀ (a b c d e f:Value) (w:World),(Instr.field 105 (.agg #[a,b,c,d,e,f]) 1).run Tryz.prog w=.ok b w:=fun _ _ _ _ _ _ _=>by kernel_rfl
   by_cases hk:t.k=k
   ·have q1:(t.k == k)=true:=by simpa using hk
    by_cases hm:t.x=x
    ·subst hm
     have hres:decide (t.k=k/\t.x=t.x)=true:=by simp [hk]
     rw[hres]
     clear hx hres hk
     go_enter Tryz.func115,Tryz.ntmps115
     go_wp2_with fail
     refine (HP.out _ H1.out).mono ?_
     rintro e w1 ⟨rfl,hb⟩
     have HB:=Lib.hid hb
     clear hb
     go_wp2_with fail
     refine (HP.out _ (H1.out.keep HB.out)).mono ?_
     rintro e w2 ⟨rfl,hb⟩
     have HB2:=Lib.hid (HB.out.trans (hb.mono HB.out.size))
     clear hb
     go_wp2_with fail
     go_ret
     exact⟨by simp,HB2.out⟩
    ·have hres:decide (t.k=k/\t.x=x)=false:=by simp [hm]
     have hne:¬ ((⟨t.x.toArray⟩:ByteArray)=⟨x.toArray⟩):=fun e=>hm (hx.2 e)
     have hne2:(t.x == x)=false:=by simpa using hm
     rw[hres]
     clear hx hres hk
     go_enter Tryz.func115,Tryz.ntmps115
     go_wp2_with fail
     refine (HP.out _ H1.out).mono ?_
     rintro e w1 ⟨rfl,hb⟩
     have HB:=Lib.hid hb
     clear hb
     go_wp2_with fail
     refine (HP.out _ (H1.out.keep HB.out)).mono ?_
     rintro e w2 ⟨rfl,hb⟩
     have HB2:=Lib.hid (HB.out.trans (hb.mono HB.out.size))
     clear hb
     go_wp2_with fail
     go_ret
     exact⟨by simp,HB2.out⟩
   ·have q1:(t.k == k)=false:=by simpa using hk
    have hres:decide (t.k=k/\t.x=x)=false:=by simp [hk]
    rw[hres]
    clear hx hres hk
    go_enter Tryz.func115,Tryz.ntmps115
    go_wp2_with fail
    refine (HP.out _ H1.out).mono ?_
    rintro e w1 ⟨rfl,hb⟩
    have HB:=Lib.hid hb
    clear hb
    go_wp2_with fail
    go_ret
    exact⟨rfl,HB.out⟩
set_option maxHeartbeats 1000000 in
set_option maxRecDepth 100000 in
theorem more_ln {w:World} {b:Nat} {s:LS} {vt:Value} (h:Ln w b s vt) (hg:Good s) (n:Nat) (hn:n<=1000000) :
 Calls Tryz.prog 114 #[.pointer (some ⟨b,0,none⟩),.int .i64 n] w fun e w'=>e=.returned (.bool (moreS n s).1)/\Ln w' b (moreS n s).2 vt/\MT b [101] w w':=by
 have HI:=Lib.hid (fun W (hW:Ln W b s vt) k x=>is_ln hW hg k x)
 have HLN:=Lib.hid h
 by_cases h0:n=0
 ·subst h0
  obtain⟨ts,i,a,e,h1,h2⟩:=h
  have x3:=h1.blk.cell 3
  have hr:=h1.blk.lt
  simp only[List.getElem?_toArray,List.getElem?_cons_zero,List.getElem?_cons_succ] at x3
  cases s with
  | bad a' e' =>
    obtain⟨rfl,rfl⟩:=h2
    have q1:(e == 0)=false:=by simpa using (show e≠0 from hg)
    clear h1 hg
    go_enter Tryz.func114,Tryz.ntmps114
    go_wp2_with fail
    go_ret
    exact⟨rfl,HLN.out,MT.refl _⟩
  | ok c =>
    obtain⟨rfl,h2⟩:=h2
    have hres:moreS 0 (.ok c)=(!isT 3 [41] c,.ok c):=rfl
    rw[hres]
    simp only
    have HI1:=Lib.hid (HI.out _ HLN.out 3 [41])
    have he:isS 3 [41] (.ok c)=isT 3 [41] c:=rfl
    rw[he] at HI1
    clear h1 h2 hg hres he HI
    generalize isT 3 [41] c=q at *
    go_enter Tryz.func114,Tryz.ntmps114
    go_wp2_with fail
    refine HI1.out.mono ?_
    rintro e w1 ⟨rfl,hb⟩
    have HB:=Lib.hid hb
    clear hb
    go_wp2_with fail
    go_ret
    exact⟨by cases q<;>rfl,HLN.out.keep HB.out,MT.ofBelow HB.out⟩
 ·have hn0:((n:Int) == 0)=false:=by rw[beq_eq_false_iff_ne];omega
  have HI1:=Lib.hid (HI.out _ HLN.out 3 [44])
  cases hq:isS 3 [44] s with
  | false =>
    have hres:moreS n s=(false,s):=by
     cases s with
     | bad a e=>rfl
     | ok c=>rw[moreS_ok,if_neg h0,if_neg (by rw[show isT 3 [44] c=false from hq];decide)]
    rw[hres]
    simp only
    rw[hq] at HI1
    clear hg hres HI h0 hq h
    go_enter Tryz.func114,Tryz.ntmps114
    go_wp2_with fail
    refine HI1.out.mono ?_
    rintro e w1 ⟨rfl,hb⟩
    have HB:=Lib.hid hb
    clear hb
    go_wp2_with fail
    go_ret
    exact⟨rfl,HLN.out.keep HB.out,MT.ofBelow HB.out⟩
  | true =>
    obtain⟨c,rfl⟩:∃ c,s=.ok c:=by
     cases s with
     | bad a e=>cases hq
     | ok c=>exact⟨c,rfl⟩
    have hres:moreS n (.ok c)=(true,.ok (c.drop 1)):=by
     rw[moreS_ok,if_neg h0,if_pos (show isT 3 [44] c=true from hq)]
    rw[hres]
    simp only
    rw[hq] at HI1
    have hcne:c≠[]:=by
     obtain⟨t,r,rfl⟩:=Ended.some hg
     simp
    clear hg hres HI h0 hq h
    go_enter Tryz.func114,Tryz.ntmps114
    go_wp2_with fail
    refine HI1.out.mono ?_
    rintro e w1 ⟨rfl,hb⟩
    obtain⟨ts,i,a,e,h1,rfl,h2⟩:=HLN.out.keep hb
    have x1:=h1.blk.cell 1
    have y1:=h1.blk.frozen 1
    have hr:=h1.blk.lt
    simp only[List.getElem?_toArray,List.getElem?_cons_zero,List.getElem?_cons_succ] at x1
    have hil:i<ts.length:=by
     apply Nat.lt_of_not_le
     intro hle
     exact hcne (by rw[<-h2];exact List.drop_of_length_le hle)
    have hlen:=h1.len
    have hs:=h1.blk.set_ 1 (.int .i64 ((i:Int)+1))
    simp only[List.setIfInBounds_toArray,List.set_cons_succ,List.set_cons_zero] at hs
    have m1:MT b [101] w1 (w1.setCell ⟨b,1,none⟩ (.int .i64 ((i:Int)+1))):=MT.setCell (MT.refl w1) h1.blk (by simp) (Nat.le_refl _) _
    have hl:Ld (w1.setCell ⟨b,1,none⟩ (.int .i64 ((i:Int)+1))) b ts (i+1) a 0 vt:=⟨by simpa using hs,m1.ownsRow h1.row (by decide),h1.len,by omega⟩
    have HL:=Lib.hid hl
    have M1:=Lib.hid m1
    have HB:=Lib.hid hb
    have HD:=Lib.hid (show ts.drop (i+1)=c.drop 1 by rw[<-h2,List.drop_drop,Nat.add_comm])
    clear h1 h2 hs m1 hl hb hcne
    go_wp2_with fail
    go_ret
    exact⟨rfl,⟨ts,i+1,a,0,HL.out,rfl,HD.out⟩,(MT.ofBelow HB.out).trans M1.out⟩
def IntsO (B:Nat) (w:World) (v:Value) (l:List Int):Prop:=w.ownsRow B 3 1 v l.length (l.map fun p=>.int .i64 p)
def Apart (v1 v2:Value):Prop:=∀ q,v1.ownBlock=some q->∀ q',v2.ownBlock=some q'->q≠q'
theorem Apart.symm {v1 v2:Value} (h:Apart v1 v2):Apart v2 v1:=fun q hq q' hq' e=>h q' hq' q hq e.symm
theorem Apart.nil (v:Value):Apart (.slice none 0 0) v:=fun q hq=>by simp [Value.ownBlock] at hq
theorem Apart.grow {v1 v2:Value} {g n cap H:Nat} (h:Apart v1 v2) (hat:v1.ownBlock=some g∨g=H) (hlt:∀ k,v2.ownBlock=some k->k<H):Apart (.slice (some ⟨g,0,none⟩) n cap) v2:=by
 intro q hq q' hq'
 simp [Value.ownBlock] at hq
 subst hq
 rcases hat with hat | hat
 ·exact h _ hat q' hq'
 ·have:=hlt q' hq'
  omega
structure P3 (B:Nat) (w:World) (v1 v2 v3:Value) (l1 l2 l3:List Int):Prop where
 o1:IntsO B w v1 l1
 o2:IntsO B w v2 l2
 o3:IntsO B w v3 l3
 a12:Apart v1 v2
 a13:Apart v1 v3
 a23:Apart v2 v3
section
variable {B : Nat} {w w' : World} {v1 v2 v3 : Value} {l1 l2 l3 : List Int}
theorem P3.start (B:Nat) (w:World):P3 B w (.slice none 0 0) (.slice none 0 0) (.slice none 0 0) [] [] [] :=
 ⟨World.ownsRow_nil _ _ _ _,World.ownsRow_nil _ _ _ _,World.ownsRow_nil _ _ _ _,Apart.nil _,Apart.nil _,Apart.nil _⟩
theorem P3.mt {B':Nat} {Ts:List TypeId} (h:P3 B w v1 v2 v3 l1 l2 l3) (hm:MT B' Ts w w') (ht:3 ∉ Ts):P3 B w' v1 v2 v3 l1 l2 l3 :=
 ⟨hm.ownsRow h.o1 ht,hm.ownsRow h.o2 ht,hm.ownsRow h.o3 ht,h.a12,h.a13,h.a23⟩
theorem P3.keep (h:P3 B w v1 v2 v3 l1 l2 l3) (hb:Below w.heap.size w w'):P3 B w' v1 v2 v3 l1 l2 l3:=h.mt (MT.ofBelow (B:=0) (Ts:=[]) hb) (by simp)
theorem P3.rot (h:P3 B w v1 v2 v3 l1 l2 l3):P3 B w v2 v3 v1 l2 l3 l1:=⟨h.o2,h.o3,h.o1,h.a23,h.a12.symm,h.a13.symm⟩
theorem P3.grow {g cap:Nat} {p:Int} (h:P3 B w v1 v2 v3 l1 l2 l3) (hg:w.grownBy w' v1.ownBlock)
 (hown:w'.ownsRow B 3 1 (.slice (some ⟨g,0,none⟩) (l1.length+1) cap) (l1.length+1) ((l1.map fun p=>.int .i64 p)++[.int .i64 p])) (hat:v1.ownBlock=some g∨g=w.heap.size) :
 P3 B w' (.slice (some ⟨g,0,none⟩) (l1.length+1) cap) v2 v3 (l1++[p]) l2 l3:=by
 refine⟨?_,?_,?_,h.a12.grow hat fun k hk=>(h.o2.lt k hk).2,h.a13.grow hat fun k hk=>(h.o3.lt k hk).2,h.a23⟩
 ·unfold IntsO
  simpa using hown
 ·refine World.ownsRow.kept h.o2 hg ?_
  cases hv:v2.ownBlock with
  | none=>exact .inl rfl
  | some q=>exact .inr fun e=>h.a12 q e.symm q hv rfl
 ·refine World.ownsRow.kept h.o3 hg ?_
  cases hv:v3.ownBlock with
  | none=>exact .inl rfl
  | some q=>exact .inr fun e=>h.a13 q e.symm q hv rfl
theorem IntsO.get (h:IntsO B w v1 l1) {i:Nat} {p:Int} (hi:l1[i]? = some p):∃ g cap,v1=.slice (some ⟨g,0,none⟩) l1.length cap/\l1.length<=cap/\cap<=maxLen/\g<w.heap.size/\w.cell? ⟨g,i,none⟩=some (.int .i64 p):=by
 have hl:=(List.getElem?_eq_some_iff.1 hi).1
 rcases h.2 with ⟨_,h0⟩ | ⟨g,cap,cur,rfl,_,hg,hnc,hcm,_⟩
 ·omega
 ·have hc:=World.ownsRow.cellAt (show w.ownsRow B 3 1 (.slice (some ⟨g,0,none⟩) l1.length cap) l1.length (l1.map fun p=>.int .i64 p) from h) i (by omega)
  exact⟨g,cap,rfl,hnc,hcm,(Array.getElem?_eq_some_iff.1 hg).1,hc.trans (by simp [hi])⟩
end
structure PC (w0 w:World) (qb:Nat) (nm:List UInt8) (qh qa:Value) (hn:List (List UInt8)) (al:List Atm):Prop where
 q:Blk w qb 29 #[.string ⟨nm.toArray⟩,qh,qa]
 r:Blk w w0.heap.size 29 #[.string ⟨#[]⟩,.slice none 0 0,.slice none 0 0]
 head:OwnS w0.heap.size w qh hn
 atoms:∃ rows:List (List Value),w.ownsRow w0.heap.size 67 2 qa al.length rows.flatten/\All2 (AtmO w0.heap.size w) rows al
 below:Below w0.heap.size w0 w
 ne:w0.heap.size<qb
section
variable {w0 w w' : World} {qb : Nat} {nm : List UInt8} {qh qa : Value} {hn : List (List UInt8)} {al : List Atm}
theorem PC.mt {Ts:List TypeId} (h:PC w0 w qb nm qh qa hn al) (hm:MT w0.heap.size Ts w w') (h1:29 ∉ Ts) (h2:9 ∉ Ts) (h3:67 ∉ Ts) (h4:71 ∉ Ts):PC w0 w' qb nm qh qa hn al:=by
 obtain⟨rows,h5,h6⟩:=h.atoms
 exact⟨h.q.mt hm h1,h.r.mt hm h1,hm.ownsRow h.head h2,⟨rows,hm.ownsRow h5 h3,h6.mono fun b a h=>h.mt hm h4⟩,h.below.trans (hm.below h.below.size),h.ne⟩
theorem PC.keep (h:PC w0 w qb nm qh qa hn al) (hb:Below w.heap.size w w'):PC w0 w' qb nm qh qa hn al:=h.mt (MT.ofBelow (Ts:=[]) hb) (by simp) (by simp) (by simp) (by simp)
theorem PC.setHead {w1:World} {qh':Value} {hn':List (List UInt8)} (h:PC w0 w qb nm qh qa hn al) (hg:w.grownBy w1 qh.ownBlock) (hown:OwnS w0.heap.size w1 qh' hn') :
 PC w0 (w1.setCell ⟨qb,1,none⟩ qh') qb nm qh' qa hn' al/\MT w0.heap.size [9,29] w (w1.setCell ⟨qb,1,none⟩ qh'):=by
 have m:MT w0.heap.size [9] w w1:=(MT.refl w).grown hg h.head (by simp) (Nat.le_refl _)
 have q1:=h.q.mt m (by decide)
 have r1:=h.r.mt m (by decide)
 have ms:MT w0.heap.size [29] w1 (w1.setCell ⟨qb,1,none⟩ qh'):=MT.setCell (MT.refl w1) q1 (by simp) (Nat.le_of_lt h.ne) _
 have mm:MT w0.heap.size [9,29] w (w1.setCell ⟨qb,1,none⟩ qh'):=(m.wide (by simp)).trans (ms.wide (by simp))
 obtain⟨rows,h5,h6⟩:=h.atoms
 have hne:=h.ne
 refine⟨⟨?_,r1.far (p:=⟨qb,1,none⟩) (by simp;omega) _,ms.ownsRow hown (by decide),⟨rows,mm.ownsRow h5 (by decide),h6.mono fun b a h=>h.mt mm (by decide)⟩,h.below.trans (mm.below h.below.size),h.ne⟩,mm⟩
 simpa using q1.set_ 1 qh'
theorem PC.setAtoms {w1:World} {qa':Value} {rows:List (List Value)} {row:List Value} {a:Atm} (h:PC w0 w qb nm qh qa hn al) (ho:w.ownsRow w0.heap.size 67 2 qa al.length rows.flatten) (ha:All2 (AtmO w0.heap.size w) rows al)
 (hg:w.grownBy w1 qa.ownBlock) (hrow:AtmO w0.heap.size w row a) (hown:w1.ownsRow w0.heap.size 67 2 qa' (al.length+1) (rows.flatten++row)) :
 PC w0 (w1.setCell ⟨qb,2,none⟩ qa') qb nm qh qa' hn (al++[a])/\MT w0.heap.size [67,29] w (w1.setCell ⟨qb,2,none⟩ qa'):=by
 have m:MT w0.heap.size [67] w w1:=(MT.refl w).grown hg ho (by simp) (Nat.le_refl _)
 have q1:=h.q.mt m (by decide)
 have r1:=h.r.mt m (by decide)
 have ms:MT w0.heap.size [29] w1 (w1.setCell ⟨qb,2,none⟩ qa'):=MT.setCell (MT.refl w1) q1 (by simp) (Nat.le_of_lt h.ne) _
 have mm:MT w0.heap.size [67,29] w (w1.setCell ⟨qb,2,none⟩ qa'):=(m.wide (by simp)).trans (ms.wide (by simp))
 have hne:=h.ne
 refine⟨⟨?_,r1.far (p:=⟨qb,2,none⟩) (by simp;omega) _,mm.ownsRow h.head (by decide),⟨rows++[row],?_,?_⟩,h.below.trans (mm.below h.below.size),h.ne⟩,mm⟩
 ·simpa using q1.set_ 2 qa'
 ·have:=ms.ownsRow hown (by decide)
  simpa using this
 ·exact All2.snoc (hrow.mt mm (by decide)) (ha.mono fun b a h=>h.mt mm (by decide))
end
theorem Tryz.infoInt:(Tryz.prog.info? 3).map (fun i=>(i.zero,i.size,i.bytes))=some (some (.int .i64 0),1,8):=by kernel_rfl
theorem ln_bad {w:World} {b:Nat} {a e:Int} {vt:Value} (h:Ln w b (.bad a e) vt):∃ ts i,Ld w b ts i a e vt:=by
 obtain⟨ts,i,a',e',h1,rfl,rfl⟩:=h
 exact⟨ts,i,h1⟩
theorem ln_ok {w:World} {b:Nat} {c:List Tok} {vt:Value} (h:Ln w b (.ok c) vt):∃ ts i a,Ld w b ts i a 0 vt/\ts.drop i=c:=by
 obtain⟨ts,i,a',e',h1,rfl,h2⟩:=h
 exact⟨ts,i,a',h1,h2⟩
set_option maxHeartbeats 1000000 in
set_option maxRecDepth 100000 in
theorem want_bad {w:World} {b:Nat} {a e:Int} {vt:Value} (h:Ln w b (.bad a e) vt) (hg:e≠0) (k:Int) (x:List UInt8) :
 Calls Tryz.prog 55 #[.pointer (some ⟨b,0,none⟩),.int .i64 k,.string ⟨x.toArray⟩] w fun e' w'=>e'=.returned tok0.v/\Ln w' b (.bad a e) vt/\MT b [101] w w':=by
 have HL:=Lib.hid h
 obtain⟨ts,i,h1⟩:=ln_bad h
 have HP:=Lib.hid (fun W (hW:Ld W b ts i a e vt)=>next_any W b ts i a e vt hW)
 have H1:=Lib.hid h1
 have hr0:=h1.blk.lt
 have q1:(e != 0)=true:=by simpa using hg
 have HB0:=Lib.hid (show Below w.heap.size w (w.alloc (.cells #[.int .i64 0,.string ⟨#[]⟩,.int .i64 0,.int .i64 0,.string ⟨#[]⟩,.int .i64 0] 105)) from balloc (Below.refl _ _) _)
 generalize headT (ts.drop i)=t at *
 clear h h1 hg
 go_enter Tryz.func55,Tryz.ntmps55
 go_wp2_with fail
 refine (HP.out _ (H1.out.keep HB0.out)).mono ?_
 rintro e1 w1 ⟨rfl,hb⟩
 have z0:=(Blk.new w 105 #[.int .i64 0,.string ⟨#[]⟩,.int .i64 0,.int .i64 0,.string ⟨#[]⟩,.int .i64 0]).below hb (by simp)
 have hb1:Below w.heap.size w w1:=HB0.out.trans (hb.mono (by simp))
 have h2:=H1.out.keep hb1
 have x3:=h2.blk.cell 3
 have hr:=h2.blk.lt
 simp only[List.getElem?_toArray,List.getElem?_cons_zero,List.getElem?_cons_succ] at x3
 have HB:=Lib.hid hb1
 have Z0:=Lib.hid z0
 clear hb z0 hb1 h2
 unfold Tok.v
 go_wp2_with (refine wpList_store_blk rfl 105 _ _ rfl w.heap.size 105 _ _ rfl rfl (Z0.out.alloc _) (by kernel_rfl) rfl (by simp [Value.oneCell']) ?_)
 intro w2 hb2 hm2 hz2
 have r0:=hb2.cell 0
 have r1:=hb2.cell 1
 have r2:=hb2.cell 2
 have r3:=hb2.cell 3
 have r4:=hb2.cell 4
 have r5:=hb2.cell 5
 simp only[List.getElem?_toArray,List.getElem?_cons_zero,List.getElem?_cons_succ] at r0 r1 r2 r3 r4 r5
 have HF:=Lib.hid (Mod.own (balloc HB.out _) hm2 (Nat.le_refl _))
 clear hb2 hm2 hz2
 go_wp2_with fail
 exact bodyPost_ret (v:=tok0.v) (by simp [results,Tryz.results55,go_sem,Tok.v,tok0, *]) rfl ⟨rfl,HL.out.keep HF.out,MT.ofBelow HF.out⟩
set_option maxHeartbeats 2000000 in
set_option maxRecDepth 100000 in
theorem want_no {w:World} {b:Nat} {t:Tok} {r:List Tok} {vt:Value} (h:Ln w b (.ok (t::r)) vt) (k:Int) (x:List UInt8) (hno:¬ (t.k=k/\(x=[]∨t.x=x))) :
 Calls Tryz.prog 55 #[.pointer (some ⟨b,0,none⟩),.int .i64 k,.string ⟨x.toArray⟩] w fun e' w'=>e'=.returned tok0.v/\Ln w' b (.bad t.p 80) vt/\MT b [101] w w':=by
 have HL:=Lib.hid h
 obtain⟨ts,i,a,h1,hd⟩:=ln_ok h
 have HP:=Lib.hid (fun W (hW:Ld W b ts i a 0 vt)=>next_any W b ts i a 0 vt hW)
 rw[hd] at HP
 simp only[headT] at HP
 have H1:=Lib.hid h1
 have hr0:=h1.blk.lt
 have HB0:=Lib.hid (show Below w.heap.size w (w.alloc (.cells #[.int .i64 0,.string ⟨#[]⟩,.int .i64 0,.int .i64 0,.string ⟨#[]⟩,.int .i64 0] 105)) from balloc (Below.refl _ _) _)
 have hcase:(t.k != k)=true∨((t.k != k)=false/\(!x.isEmpty)=true/\(t.x == x)=false):=by
  by_cases hk:t.k=k
  ·refine .inr ⟨by simpa using hk,?_,?_⟩
   ·cases x with
    | nil=>exact absurd ⟨hk,.inl rfl⟩ hno
    | cons _ _=>rfl
   ·simpa using fun e=>hno ⟨hk,.inr e⟩
  ·exact .inl (by simpa using hk)
 clear h h1 hno hd
 rcases hcase with q1 | ⟨q1,q2,q3⟩
 all_goals
  go_enter Tryz.func55,Tryz.ntmps55
  go_wp2_with fail
  refine (HP.out _ (H1.out.keep HB0.out)).mono ?_
  rintro e1 w1 ⟨rfl,hb⟩
  have z0:=(Blk.new w 105 #[.int .i64 0,.string ⟨#[]⟩,.int .i64 0,.int .i64 0,.string ⟨#[]⟩,.int .i64 0]).below hb (by simp)
  have hb1:Below w.heap.size w w1:=HB0.out.trans (hb.mono (by simp))
  have h2:=H1.out.keep hb1
  have x3:=h2.blk.cell 3
  have hr:=h2.blk.lt
  simp only[List.getElem?_toArray,List.getElem?_cons_zero,List.getElem?_cons_succ] at x3
  have HB:=Lib.hid hb1
  have Z0:=Lib.hid z0
  have HFL:=Lib.hid (fail_ln ((HL.out.keep hb1).keep (balloc (Below.refl _ w1) (.cells #[.int .i64 t.k,.string ⟨t.x.toArray⟩,.int .i64 t.vk,.int .i64 t.vn,.string ⟨t.vt.toArray⟩,.int .i64 t.p] 105))) (fun _ _ e=>by cases e) t.p 80)
  clear hb z0 hb1 h2
  unfold Tok.v
  go_wp2_with fail
  refine HFL.out.mono ?_
  rintro e3 w3 ⟨rfl,hl3,hm3⟩
  have z3:=(Z0.out.alloc (.cells #[.int .i64 t.k,.string ⟨t.x.toArray⟩,.int .i64 t.vk,.int .i64 t.vn,.string ⟨t.vt.toArray⟩,.int .i64 t.p] 105)).mt hm3 (by decide)
  have HL3:=Lib.hid hl3
  have Z3:=Lib.hid z3
  have HM3:=Lib.hid ((MT.ofBelow (balloc HB.out _)).trans hm3)
  clear hl3 hm3 z3
  go_wp2_with (refine wpList_store_blk rfl 105 _ _ rfl w.heap.size 105 _ _ rfl rfl Z3.out (by kernel_rfl) rfl (by simp [Value.oneCell']) ?_)
  intro w2 hb2 hm2 hz2
  have r0:=hb2.cell 0
  have r1:=hb2.cell 1
  have r2:=hb2.cell 2
  have r3:=hb2.cell 3
  have r4:=hb2.cell 4
  have r5:=hb2.cell 5
  simp only[List.getElem?_toArray,List.getElem?_cons_zero,List.getElem?_cons_succ] at r0 r1 r2 r3 r4 r5
  have HF:=Lib.hid (HM3.out.own hm2 (Nat.le_refl _))
  have HL2:Hid (Ln w2 b (.bad t.p 80) vt):=Lib.hid (by
   obtain⟨ts',i',hl⟩:=ln_bad HL3.out
   have hne:b≠w.heap.size:=by omega
   exact⟨ts',i',_,_,⟨hl.blk.mod hm2 hne,hm2.ownsRow hl.row (fun k hk e=>by
    have h8:=H1.out.row.lt _ hk
    omega),hl.len,hl.il⟩,rfl,rfl⟩)
  clear hb2 hm2 hz2
  go_wp2_with fail
  exact bodyPost_ret (v:=tok0.v) (by simp [results,Tryz.results55,go_sem,Tok.v,tok0, *]) rfl ⟨rfl,HL2.out,HF.out⟩
set_option maxHeartbeats 2000000 in
set_option maxRecDepth 100000 in
theorem want_yes {w:World} {b:Nat} {t:Tok} {r:List Tok} {vt:Value} (h:Ln w b (.ok (t::r)) vt) (k:Int) (x:List UInt8) (hyes:t.k=k/\(x=[]∨t.x=x)) :
 Calls Tryz.prog 55 #[.pointer (some ⟨b,0,none⟩),.int .i64 k,.string ⟨x.toArray⟩] w fun e' w'=>e'=.returned t.v/\Ln w' b (.ok r) vt/\MT b [101] w w':=by
 obtain⟨ts,i,a,h1,hd⟩:=ln_ok h
 have HP:=Lib.hid (fun W (hW:Ld W b ts i a 0 vt)=>next_any W b ts i a 0 vt hW)
 have hdr:ts.drop (i+1)=r:=drop_succ_of hd
 have hil:i<ts.length:=by
  apply Nat.lt_of_not_le
  intro hle
  rw[List.drop_of_length_le hle] at hd
  cases hd
 rw[hd] at HP
 simp only[headT] at HP
 have H1:=Lib.hid h1
 have hr0:=h1.blk.lt
 have hlen:=h1.len
 have HB0:=Lib.hid (show Below w.heap.size w (w.alloc (.cells #[.int .i64 0,.string ⟨#[]⟩,.int .i64 0,.int .i64 0,.string ⟨#[]⟩,.int .i64 0] 105)) from balloc (Below.refl _ _) _)
 have q1:(t.k != k)=false:=by simpa using hyes.1
 have hcase:(!x.isEmpty)=false∨((!x.isEmpty)=true/\(t.x == x)=true):=by
  cases x with
  | nil=>exact .inl rfl
  | cons a l =>
    rcases hyes.2 with h | h
    ·cases h
    ·exact .inr ⟨rfl,by simpa using h⟩
 have HDR:=Lib.hid hdr
 clear h h1 hyes hd hdr
 rcases hcase with q2 | ⟨q2,q3⟩
 all_goals
  go_enter Tryz.func55,Tryz.ntmps55
  go_wp2_with fail
  refine (HP.out _ (H1.out.keep HB0.out)).mono ?_
  rintro e1 w1 ⟨rfl,hb⟩
  have z0:=(Blk.new w 105 #[.int .i64 0,.string ⟨#[]⟩,.int .i64 0,.int .i64 0,.string ⟨#[]⟩,.int .i64 0]).below hb (by simp)
  have hb1:Below w.heap.size w w1:=HB0.out.trans (hb.mono (by simp))
  have h2:=H1.out.keep hb1
  have x3:=h2.blk.cell 3
  have x1:=h2.blk.cell 1
  have y1:=h2.blk.frozen 1
  have hr:=h2.blk.lt
  simp only[List.getElem?_toArray,List.getElem?_cons_zero,List.getElem?_cons_succ] at x1 x3
  have hrt:b≠w1.heap.size:=by omega
  have hzs:w.heap.size≠b:=by omega
  have HB:=Lib.hid hb1
  have Z0:=Lib.hid z0
  have H2:=Lib.hid h2
  clear hb z0 hb1 h2
  unfold Tok.v
  go_wp2_with (refine wpList_store_blk rfl 105 _ _ rfl w.heap.size 105 _ _ rfl rfl ((Z0.out.far (p:=⟨b,1,none⟩) hzs _).alloc _) (by kernel_rfl) rfl (by simp [Value.oneCell']) ?_)
  intro w2 hb2 hm2 hz2
  have r0:=hb2.cell 0
  have r1:=hb2.cell 1
  have r2:=hb2.cell 2
  have r3:=hb2.cell 3
  have r4:=hb2.cell 4
  have r5:=hb2.cell 5
  simp only[List.getElem?_toArray,List.getElem?_cons_zero,List.getElem?_cons_succ] at r0 r1 r2 r3 r4 r5
  have m1:MT b [101] w ((w1.setCell ⟨b,1,none⟩ (.int .i64 ((i:Int)+1))).alloc (.cells #[.int .i64 t.k,.string ⟨t.x.toArray⟩,.int .i64 t.vk,.int .i64 t.vn,.string ⟨t.vt.toArray⟩,.int .i64 t.p] 105)):=((MT.ofBelow HB.out).setCell H2.out.blk (by simp) (Nat.le_refl _) _).alloc _
  have HF:=Lib.hid (m1.own hm2 (Nat.le_refl _))
  have hbl:=((H2.out.blk.set_ 1 (.int .i64 ((i:Int)+1))).alloc (.cells #[.int .i64 t.k,.string ⟨t.x.toArray⟩,.int .i64 t.vk,.int .i64 t.vn,.string ⟨t.vt.toArray⟩,.int .i64 t.p] 105)).mod hm2 (fun e=>hzs e.symm)
  simp only[List.setIfInBounds_toArray,List.set_cons_succ,List.set_cons_zero] at hbl
  have hro:=m1.ownsRow H1.out.row (by decide)
  have HL2:Hid (Ln w2 b (.ok r) vt):=Lib.hid ⟨ts,i+1,a,0,⟨by simpa using hbl,hm2.ownsRow hro (fun k hk e=>by
   have h8:=H1.out.row.lt _ hk
   omega),hlen,by omega⟩,rfl,HDR.out⟩
  clear hb2 hm2 hz2 m1 hbl hro
  go_wp2_with fail
  exact bodyPost_ret (v:=t.v) (by simp [results,Tryz.results55,go_sem,Tok.v, *]) rfl ⟨rfl,HL2.out,HF.out⟩
theorem want_ln {w:World} {b:Nat} {s:LS} {vt:Value} (h:Ln w b s vt) (hg:Good s) (k:Int) (x:List UInt8) :
 Calls Tryz.prog 55 #[.pointer (some ⟨b,0,none⟩),.int .i64 k,.string ⟨x.toArray⟩] w fun e' w'=>e'=.returned (wantS k x s).1.v/\Ln w' b (wantS k x s).2 vt/\MT b [101] w w':=by
 cases s with
 | bad a e=>exact want_bad h hg k x
 | ok c =>
   obtain⟨t,r,rfl⟩:=Ended.some hg
   by_cases hc:t.k=k/\(x=[]∨t.x=x)
   ·have e:wantS k x (.ok (t::r))=(t,.ok r):=if_pos hc
    rw[e]
    exact want_yes h k x hc
   ·have e:wantS k x (.ok (t::r))=(tok0,.bad t.p 80):=if_neg hc
    rw[e]
    exact want_no h k x hc
end Go.Proofs.YtamjadghncnbcaaGreatDoor
