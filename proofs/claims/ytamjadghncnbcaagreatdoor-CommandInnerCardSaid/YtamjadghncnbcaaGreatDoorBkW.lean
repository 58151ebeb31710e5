/- Reading further to the right: the tokens and what the lower layers read move their places alone; plainly. A lower layer's reading, and the command's behind a word, side by side; what the walk of CommandInner wants. -/
import Derived.Test.YtamjadghncnbcaaGreatDoorDcW
import Derived.Test.YtamjadghncnbcaaGreatDoorDxW
namespace Go.Proofs.YtamjadghncnbcaaGreatDoor
open Go.RowKit
set_option linter.unusedVariables false
def shT (k:Nat) (t:Tok):Tok:=⟨t.k,t.x,t.vk,t.vn,t.vt,t.p+k⟩
def pl (k:Nat) (a e:Int):Int:=if e=0 then a else a+k
def shL (k:Nat) (R:LxR):LxR:=⟨R.ts.map (shT k),pl k R.at_ R.e,R.e⟩
theorem one_sh {r:List UInt8} {p k:Nat} (h:(oneS r (p:Int)).2=0):(oneS r ((p+k:Nat):Int)).2=0/\(oneS r ((p+k:Nat):Int)).1=shT k (oneS r (p:Int)).1:=by
 obtain⟨h1,h2⟩:=one_place (r:=r) (p:Int) ((p+k:Nat):Int)
 rw[h] at h1
 obtain⟨_,h3⟩:=one_kind h
 obtain⟨_,h4⟩:=one_kind h1.symm
 refine⟨h1.symm,?_⟩
 generalize (oneS r ((p+k:Nat):Int)).1=b at *
 generalize (oneS r (p:Int)).1=a at *
 obtain⟨a1,a2,a3,a4,a5,a6⟩:=a
 obtain⟨b1,b2,b3,b4,b5,b6⟩:=b
 obtain⟨e1,e2,e3,e4,e5⟩:=h2
 simp only at e1 e2 e3 e4 e5 h3 h4
 subst e1 e2 e3 e4 e5 h3 h4
 simp [shT]
theorem LX_sh (k:Nat):∀ (m:Nat) (r:List UInt8) (p:Nat),r.length<=m->LX r (p+k)=shL k (LX r p):=by
 intro m
 induction m with
 | zero =>
   intro r p hr
   have h:r=[]:=List.length_eq_zero_iff.1 (by omega)
   rw[LX_end (.inl h),LX_end (.inl h),h]
   simp [shL,pl,endTok,shT]
 | succ m ih =>
   intro r p hr
   by_cases h:r=[]∨bt r 0=35
   ·rw[LX_end h,LX_end h]
    simp only[shL,pl,List.map_cons,List.map_nil,shT,endTok,LxR.mk.injEq,List.cons.injEq,Tok.mk.injEq,and_true,true_and,if_true]
    omega
   ·have hl:=List.length_pos_iff.2 (fun e=>h (.inl e))
    cases hb:spB (bt r 0) with
    | true =>
      rw[LX_blank h hb,LX_blank h hb,show p+k+1=p+1+k by omega]
      exact ih _ _ (by rw[List.length_drop];omega)
    | false =>
      by_cases he:(oneS r (p:Int)).2=0
      ·obtain⟨h1,h2⟩:=one_sh (k:=k) he
       have h3:=(one_len (r:=r) (p:=p) he (fun e=>h (.inl e))).1
       rw[LX_one h hb he,LX_one h hb h1,h2]
       have hx:(shT k (oneS r (p:Int)).1).x=(oneS r (p:Int)).1.x:=rfl
       rw[hx,show p+k+(oneS r (p:Int)).1.x.length=p+(oneS r (p:Int)).1.x.length+k by omega,ih _ _ (by rw[List.length_drop];omega)]
       generalize LX (r.drop (oneS r (p:Int)).1.x.length) (p+(oneS r (p:Int)).1.x.length)=R
       have e1:(shL k R).e=R.e:=rfl
       rw[e1]
       by_cases q:R.e≠0
       ·rw[if_pos q,if_pos q]
       ·rw[if_neg q,if_neg q]
        simp [shL,pl]
      ·have h1:=(one_place (r:=r) (p:Int) ((p+k:Nat):Int)).1
       rw[LX_bad h hb he,LX_bad h hb (by rw[<-h1];exact he),<-h1]
       simp only[shL,pl,List.map_nil,LxR.mk.injEq,and_true,true_and]
       rw[if_neg he]
       omega
theorem lexR_blank {s:List UInt8} (h:s.length+1<=16384):lexR (32::s)=shL 1 (lexR s):=by
 rw[lexR_short (by rw[List.length_cons];omega),lexR_short (by omega)]
 have:=LX_skip [32] s (by simp) 0
 rw[show ([32]:List UInt8)++s=32::s from rfl] at this
 rw[this]
 exact LX_sh 1 _ s 0 (Nat.le_refl _)
theorem one_named {l:List UInt8} (h:isNameB l=true):l≠[]/\bt l 0≠35/\spB (bt l 0)=false/\oneS l ((0:Nat):Int)=(⟨1,l,0,0,[],0⟩,0):=by
 unfold isNameB at h
 simp only[decide_eq_true_eq] at h
 obtain⟨h1,h2,h3,h4⟩:=h
 have hb:∀ c:Int,letB c=true->c≠35/\spB c=false/\c≠58/\c≠34/\digB c=false/\c≠45/\c≠40/\c≠41/\c≠44/\c≠43:=by
  intro c hc
  unfold letB at hc
  unfold spB digB
  simp only[decide_eq_true_eq,decide_eq_false_iff_not] at hc ⊢
  omega
 obtain⟨c1,c2,c3,c4,c5,c6,c7,c8,c9,c10⟩:=hb _ h2
 refine⟨h1,c1,c2,?_⟩
 unfold oneS
 rw[if_neg c3,if_neg (by rw[c5];simp [c4,c6]),if_neg (by simp [c6,c7,c8,c9,c10]),if_pos h2,if_neg (by omega),h3,List.take_length]
 rfl
theorem lexR_word {x s:List UInt8} (hx:isNameB x=true) (h:x.length+1+s.length<=16384) :
 lexR (x++32::s)=if (lexR s).e≠0 then ⟨(lexR s).ts.map (shT (x.length+1)),(lexR s).at_+(x.length+1:Nat),(lexR s).e⟩ else ⟨⟨1,x,0,0,[],0⟩::(lexR s).ts.map (shT (x.length+1)),0,0⟩:=by
 obtain⟨h1,h2,h3,h4⟩:=one_named hx
 rw[lexR_short (by rw[List.length_append,List.length_cons];omega),lexR_short (l:=s) (by omega)]
 have h5:=LX_step (x:=x) (y:=32::s) (rest:=[]) (p:=0) (q:=0) (by rw[List.append_nil];exact fun e=>e.elim h1 h2) (by rw[List.append_nil];exact h3) (by rw[List.append_nil,h4]) (by rw[List.append_nil,h4]) (.inr (.inl (by simp [bt])))
 rw[h5,List.append_nil,h4]
 have h6:LX (32::s) (0+x.length)=shL (x.length+1) (LX s 0):=by
  have:=LX_skip [32] s (by simp) (0+x.length)
  rw[show ([32]:List UInt8)++s=32::s from rfl] at this
  rw[this,<-LX_sh (x.length+1) _ s 0 (Nat.le_refl _)]
  congr 1
 rw[h6]
 generalize LX s 0=R
 by_cases q:R.e≠0
 ·rw[if_pos q,if_pos (show (shL (x.length+1) R).e≠0 from q)]
  simp only[shL,pl]
  rw[if_neg q]
 ·rw[if_neg q,if_neg (show ¬ (shL (x.length+1) R).e≠0 from q)]
  rfl
def mapP {α β:Type} (k:Nat) (g:α->β):PR α->PR β
 | .bad a e=>.bad (pl k a e) e
 | .ok x c=>.ok (g x) (c.map (shT k))
def ShP {α:Type} (k:Nat) (g:α->α) (P:List Tok->PR α):Prop:=∀ c,P (c.map (shT k))=mapP k g (P c)
section
variable {α β : Type} {k : Nat} {g : α -> α}
theorem tk_sh (K:Int) (xs:List (List UInt8)):ShP k (shT k) (tk K xs):=by
 intro c
 cases c with
 | nil=>simp [tk,mapP,pl]
 | cons t r =>
   have e1:(shT k t).k=t.k:=rfl
   have e2:(shT k t).x=t.x:=rfl
   simp only[List.map_cons,tk,e1,e2]
   by_cases h:t.k=K/\(xs=[]∨t.x∈xs)
   ·rw[if_pos h,if_pos h]
    by_cases h0:K=0<;>simp [h0,mapP]
   ·rw[if_neg h,if_neg h]
    simp [mapP,pl,shT]
theorem isM_sh (m:List UInt8) (c:List Tok):isM m (c.map (shT k))=isM m c:=by cases c<;>rfl
theorem more_sh {P:List Tok->PR α} (h:ShP k g P):∀ (f:Nat),ShP k (List.map g) (moreP P f):=by
 intro f
 induction f with
 | zero=>intro c;rfl
 | succ f ih =>
   intro c
   unfold moreP
   rw[isM_sh]
   by_cases hm:isM [44] c=true
   ·rw[if_pos hm,if_pos hm,<-List.map_drop,h]
    cases P (c.drop 1) with
    | bad a e=>rfl
    | ok x c1 =>
      simp only[mapP]
      rw[ih c1]
      cases moreP P f c1<;>rfl
   ·rw[if_neg hm,if_neg hm]
    rfl
theorem some_sh {P:List Tok->PR α} (h:ShP k g P):ShP k (List.map g) (someP P):=by
 intro c
 unfold someP
 rw[h]
 cases P c with
 | bad a e=>rfl
 | ok x c1 =>
   simp only[mapP,List.length_map]
   rw[more_sh h]
   cases moreP P c1.length c1<;>rfl
theorem list_sh {P:List Tok->PR α} (h:ShP k g P):ShP k (List.map g) (listP P):=by
 intro c
 unfold listP
 rw[tk_sh]
 cases tk 3 [[40]] c with
 | bad a e=>rfl
 | ok t c1 =>
   simp only[mapP]
   rw[isM_sh]
   have hz:(if isM [41] c1=true then (.ok [] (c1.map (shT k)):PR (List α)) else someP P (c1.map (shT k)))=mapP k (List.map g) (if isM [41] c1=true then .ok [] c1 else someP P c1):=by
    split
    ·rfl
    ·exact some_sh h c1
   rw[hz]
   cases (if isM [41] c1=true then (.ok [] c1:PR (List α)) else someP P c1) with
   | bad a e=>rfl
   | ok xs c2 =>
     simp only[mapP]
     rw[tk_sh]
     cases tk 3 [[41]] c2<;>rfl
end
section
variable {k : Nat}
theorem col_sh:ShP k (fun z:ClP=>(z.1,z.2.1,z.2.2+k)) colP:=by
 intro c
 unfold colP
 rw[tk_sh]
 cases tk 1 [] c with
 | bad a e=>rfl
 | ok t c1 =>
   simp only[mapP]
   rw[tk_sh]
   cases tk 1 [[105,110,116],[116,101,120,116]] c1<;>rfl
theorem name_sh:ShP k (fun z:List UInt8 × Int=>(z.1,z.2+k)) nameP:=by
 intro c
 unfold nameP
 rw[tk_sh]
 cases tk 1 [] c<;>rfl
theorem term_sh:ShP k (fun z:Trm × Int=>(z.1,z.2+k)) termP:=by
 intro c
 have hl:litT (c.map (shT k))=litT c:=by cases c<;>rfl
 unfold termP
 rw[hl,tk_sh,tk_sh]
 split
 ·cases tk 2 [] c<;>rfl
 ·cases tk 1 [] c<;>rfl
def shA (k:Nat) (z:AtP):AtP:=((z.1.1,z.1.2+k),z.2.map fun u=>(u.1,u.2+k))
theorem atom_sh:ShP k (shA k) atomP:=by
 intro c
 unfold atomP
 rw[name_sh]
 cases nameP c with
 | bad a e=>rfl
 | ok x c1 =>
   simp only[mapP]
   rw[list_sh term_sh]
   cases listP termP c1<;>rfl
theorem lit_sh:ShP k id litP:=by
 intro c
 unfold litP
 rw[tk_sh]
 cases tk 2 [] c<;>rfl
theorem chg_sh:ShP k (fun z:ChP=>(z.1,z.2+k)) chgP:=by
 intro c
 unfold chgP
 rw[tk_sh]
 cases tk 3 sgnX c with
 | bad a e=>rfl
 | ok s c1 =>
   simp only[mapP]
   rw[tk_sh]
   cases tk 1 [] c1 with
   | bad a e=>rfl
   | ok t c2 =>
     simp only[mapP]
     rw[list_sh lit_sh]
     cases listP litP c2 with
     | bad a e=>rfl
     | ok l c3 =>
       simp only[mapP,List.map_id]
       rfl
theorem chkS_sh (nm:List UInt8) (l:List ClP):chkS nm (l.map fun z=>(z.1,z.2.1,z.2.2+(k:Int)))=mapP k id (chkS nm l):=by
 have e1:(l.map fun z:ClP=>(z.1,z.2.1,z.2.2+(k:Int))).map clC=l.map clC:=by rw[List.map_map];rfl
 unfold chkS rlnOf
 rw[e1,List.getElem?_map,List.getElem?_map]
 cases l[5]? with
 | some c=>simp [mapP,pl]
 | none =>
   simp only[Option.map_none]
   cases l[(againI (l.map clC)).toNat]? with
   | none=>rfl
   | some h=>cases decide (0<=againI (l.map clC))<;>simp [mapP,pl]
theorem schT_sh (c:List Tok):schT (c.map (shT k))=mapP k id (schT c):=by
 unfold schT
 rw[tk_sh]
 cases tk 1 [] c with
 | bad a e=>rfl
 | ok t c1 =>
   simp only[mapP]
   rw[list_sh col_sh]
   cases listP colP c1 with
   | bad a e=>rfl
   | ok l c2 =>
     simp only[mapP]
     rw[tk_sh]
     cases tk 0 [] c2 with
     | bad a e=>rfl
     | ok u c3=>exact chkS_sh t.x l
theorem limG_sh:∀ l:List AtP,limG (l.map (shA k))=(limG l).map fun x=>(x.1+(k:Int),x.2)
 | []=>rfl
 | a::r=>by
   unfold limG
   simp only[List.map_cons,shA,List.getElem?_map]
   cases a.2[5]? with
   | some t=>rfl
   | none=>exact limG_sh r
theorem limG_code:∀ {l:List AtP} {x:Int × Int},limG l=some x->x.2=91
 | a::r,x,h=>by
   unfold limG at h
   cases h5:a.2[5]? with
   | some t=>rw[h5] at h;simp only[Option.some.injEq] at h;rw[<-h]
   | none=>rw[h5] at h;exact limG_code h
theorem chkP_sh (n:List UInt8 × Int) (hs:List (List UInt8 × Int)) (l:List AtP):chkP (n.1,n.2+(k:Int)) (hs.map fun z=>(z.1,z.2+(k:Int))) (l.map (shA k))=mapP k id (chkP n hs l):=by
 have e1:(hs.map fun z:List UInt8 × Int=>(z.1,z.2+(k:Int))).map (·.1)=hs.map (·.1):=by rw[List.map_map];rfl
 have e2:qryOf (n.1,n.2+(k:Int)) (hs.map fun z=>(z.1,z.2+(k:Int))) (l.map (shA k))=qryOf n hs l:=by
  unfold qryOf
  simp [shA,Function.comp_def]
 have e3:limP (l.map (shA k))=(limP l).map fun x=>(x.1+(k:Int),x.2):=by
  unfold limP
  rw[List.getElem?_map]
  cases l[6]? with
  | some a=>rfl
  | none=>exact limG_sh l
 have e4:∀ x,limP l=some x->x.2≠0:=by
  intro x hx
  unfold limP at hx
  cases h6:l[6]? with
  | some a=>rw[h6] at hx;simp only[Option.some.injEq] at hx;rw[<-hx];exact (by decide:(90:Int)≠0)
  | none=>rw[h6] at hx;rw[limG_code hx];decide
 unfold chkP
 rw[e1,e2,e3]
 cases hl:limP l with
 | some x =>
   have:=e4 x hl
   simp [mapP,pl,this]
 | none =>
   simp only[Option.map_none,List.getElem?_map]
   generalize hs[(dupI (hs.map (·.1))).toNat]? = A
   generalize decide (0<=dupI (hs.map (·.1)))=B
   generalize hs[(lackI (qVars (qryOf n hs l).atoms) (hs.map (·.1))).toNat]? = C
   generalize decide (0<=lackI (qVars (qryOf n hs l).atoms) (hs.map (·.1)))=D
   rcases A with _ | x<;>rcases B with _ | _<;>rcases C with _ | y<;>rcases D with _ | _<;>simp [mapP,pl]
theorem queryT_sh (c:List Tok):queryT (c.map (shT k))=mapP k id (queryT c):=by
 unfold queryT
 rw[name_sh]
 cases nameP c with
 | bad a e=>rfl
 | ok n c1 =>
   simp only[mapP]
   rw[list_sh name_sh]
   cases listP nameP c1 with
   | bad a e=>rfl
   | ok hs c2 =>
     simp only[mapP]
     rw[tk_sh]
     cases tk 3 [[58,45]] c2 with
     | bad a e=>rfl
     | ok u c3 =>
       simp only[mapP]
       rw[some_sh atom_sh]
       cases someP atomP c3 with
       | bad a e=>rfl
       | ok l c4 =>
         simp only[mapP]
         rw[tk_sh]
         cases tk 0 [] c4 with
         | bad a e=>rfl
         | ok v c5=>exact chkP_sh n hs l
theorem chgs_sh:ShP k (List.map fun z:ChP=>(z.1,z.2+(k:Int))) chgsP:=by
 intro c
 have hl:endT (c.map (shT k))=endT c:=by cases c<;>rfl
 unfold chgsP
 rw[hl]
 split
 ·rfl
 ·exact some_sh chg_sh c
theorem chkB_sh {N:Nat} {l:List ChP} (h:∀ z∈l,ChgR N z):chkB (l.map fun z=>(z.1,z.2+(k:Int)))=mapP k id (chkB l):=by
 have e1:(l.map fun z:ChP=>(z.1,z.2+(k:Int))).map (·.1)=l.map (·.1):=by rw[List.map_map];rfl
 unfold chkB overP
 rw[e1,List.getElem?_map]
 cases hz:l[256]? with
 | none=>rfl
 | some z =>
   have:=(h z (List.mem_of_getElem? hz)).2.2.1
   simp only[Option.map_some]
   rw[if_pos this,if_pos (by omega)]
   simp [mapP,pl]
theorem batchT_sh {N:Nat} {c:List Tok} (h:TInvQ N c):batchT (c.map (shT k))=mapP k id (batchT c):=by
 unfold batchT
 rw[chgs_sh]
 have h1:=chgs_sure N c h
 cases hc:chgsP c with
 | bad a e=>rfl
 | ok l c1 =>
   rw[hc] at h1
   simp only[mapP]
   rw[tk_sh]
   cases tk 0 [] c1 with
   | bad a e=>rfl
   | ok u c2=>exact chkB_sh h1.1
end
theorem pS_blank {s:List UInt8} (h:s.length+1<=16384):pS (32::s)=mapP 1 id (pS s):=by
 have h1:=lexR_blank h
 have e1:(lexR (32::s)).e=(lexR s).e:=by rw[h1];rfl
 unfold pS startS
 rw[e1]
 by_cases he:(lexR s).e=0
 ·rw[if_pos he,if_pos he,refS_ok (lex_ended (e1.trans he)).1,refS_ok (lex_ended he).1,h1]
  exact schT_sh _
 ·rw[if_neg he,if_neg he,refS_bad,refS_bad,h1]
  rfl
theorem pQ_blank {s:List UInt8} (h:s.length+1<=16384):pQ (32::s)=mapP 1 id (pQ s):=by
 have h1:=lexR_blank h
 have e1:(lexR (32::s)).e=(lexR s).e:=by rw[h1];rfl
 unfold pQ startS
 rw[e1]
 by_cases he:(lexR s).e=0
 ·rw[if_pos he,if_pos he,refQ_ok (lex_ended (e1.trans he)).1,refQ_ok (lex_ended he).1,h1]
  exact queryT_sh _
 ·rw[if_neg he,if_neg he,refQ_bad,refQ_bad,h1]
  rfl
theorem pB_blank {s:List UInt8} (h:s.length+1<=16384):parseB (32::s)=mapP 1 id (parseB s):=by
 have h1:=lexR_blank h
 have e1:(lexR (32::s)).e=(lexR s).e:=by rw[h1];rfl
 unfold parseB
 rw[e1]
 by_cases he:(lexR s).e=0
 ·rw[if_pos he,if_pos he,h1]
  exact batchT_sh (lex_toksQ he (lex_ended he).1)
 ·rw[if_neg he,if_neg he,h1]
  rfl
theorem innerP_blank {α:Type} (n:Nat) (z:α) (p:PR α) (f:α->Cmd):innerP n z (mapP 1 id p) f=innerP ((n+1:Nat):Int) z p f:=by
 cases p with
 | ok x c=>rfl
 | bad a e =>
   unfold innerP mapP pl
   simp only
   by_cases h:e=0
   ·rw[if_pos h,if_pos h]
   ·rw[if_neg h,if_neg h,if_neg h]
    congr 1
    omega
theorem cmd_word {x s:List UInt8} (hx:isNameB x=true) (h:x.length+1+s.length<=16384) (pS':List UInt8->PR Rln) (pQ':List UInt8->PR Qry) (pB':List UInt8->PR (List Chg)) :
 parseC pS' pQ' pB' (x++32::s)=if (lexR s).e≠0 then .bad ((lexR s).at_+(x.length+1:Nat)) (lexR s).e else
  if kindC ⟨1,x,0,0,[],0⟩=0 then .bad 0 250
  else if kindC ⟨1,x,0,0,[],0⟩=1 then innerP x.length ⟨[],[]⟩ (pS' (32::s)) fun x => { cmd0 with kind:=1,rel:=x }
  else if kindC ⟨1,x,0,0,[],0⟩=2∨kindC ⟨1,x,0,0,[],0⟩=14∨kindC ⟨1,x,0,0,[],0⟩=15 then innerP x.length ⟨[],[],[]⟩ (pQ' (32::s)) fun y => { cmd0 with kind:=kindC ⟨1,x,0,0,[],0⟩,q:=y }
  else if kindC ⟨1,x,0,0,[],0⟩=4 then innerP x.length [] (pB' (32::s)) fun x => { cmd0 with kind:=4,b:=x }
  else endC (fieldsP (kindC ⟨1,x,0,0,[],0⟩) ((lexR s).ts.map (shT (x.length+1)))):=by
 unfold parseC
 rw[lexR_word hx h]
 by_cases he:(lexR s).e≠0
 ·rw[if_pos he,if_pos he]
  simp only
  rw[if_pos he]
 ·rw[if_neg he,if_neg he]
  simp only[ne_eq,not_true,if_false]
  have e1:(x++32::s).drop ((0:Int).toNat+x.length)=32::s:=by
   rw[show (0:Int).toNat+x.length=x.length by simp,List.drop_left]
  rw[e1,Int.zero_add]
theorem pS_bad {s:List UInt8} (h:(lexR s).e≠0):pS s=.bad (lexR s).at_ (lexR s).e:=by
 unfold pS startS
 rw[if_neg h,refS_bad]
theorem pQ_bad {s:List UInt8} (h:(lexR s).e≠0):pQ s=.bad (lexR s).at_ (lexR s).e:=by
 unfold pQ startS
 rw[if_neg h,refQ_bad]
theorem pB_bad {s:List UInt8} (h:(lexR s).e≠0):parseB s=.bad (lexR s).at_ (lexR s).e:=by
 unfold parseB
 rw[if_neg h]
theorem innerP_bad {α:Type} {n a e:Int} {z:α} {f:α->Cmd} (h:e≠0):innerP n z (.bad a e) f=.bad (n+a) e:=by
 unfold innerP
 simp only
 rw[if_neg h]
theorem cmd_rel {s:List UInt8} (h:s.length<=16000):cmdT ([114,101,108]++32::s)=innerP 4 ⟨[],[]⟩ (pS s) fun x => { cmd0 with kind:=1,rel:=x }:=by
 unfold cmdT
 rw[cmd_word (by decide) (by simp;omega)]
 by_cases he:(lexR s).e≠0
 ·rw[if_pos he,pS_bad he,innerP_bad he]
  congr 1
  simp
  omega
 ·rw[if_neg he,show kindC ⟨1,[114,101,108],0,0,[],0⟩=1 by decide,if_neg (by decide),if_pos rfl,pS_blank (by omega)]
  exact innerP_blank 3 _ _ _
theorem cmd_query {x s:List UInt8} (hx:x∈[[118,105,101,119],[99,108,97,115,115],[99,111,114,101]]) (h:s.length<=16000):cmdT (x++32::s)=innerP ((x.length+1:Nat):Int) ⟨[],[],[]⟩ (pQ s) fun y => { cmd0 with kind:=kindC ⟨1,x,0,0,[],0⟩,q:=y }:=by
 have hn:isNameB x=true/\x.length<=5/\(kindC ⟨1,x,0,0,[],0⟩=2∨kindC ⟨1,x,0,0,[],0⟩=14∨kindC ⟨1,x,0,0,[],0⟩=15):=by
  simp only[List.mem_cons,List.not_mem_nil,or_false] at hx
  rcases hx with rfl | rfl | rfl<;>decide
 obtain⟨h1,h2,h3⟩:=hn
 unfold cmdT
 rw[cmd_word h1 (by omega)]
 by_cases he:(lexR s).e≠0
 ·rw[if_pos he,pQ_bad he,innerP_bad he]
  congr 1
  omega
 ·rw[if_neg he,if_neg (by omega),if_neg (by omega),if_pos h3,pQ_blank (by omega)]
  exact innerP_blank _ _ _ _
theorem cmd_batch {s:List UInt8} (h:s.length<=16378):cmdT ([98,97,116,99,104]++32::s)=innerP 6 [] (parseB s) fun x => { cmd0 with kind:=4,b:=x }:=by
 unfold cmdT
 rw[cmd_word (by decide) (by simp;omega)]
 by_cases he:(lexR s).e≠0
 ·rw[if_pos he,pB_bad he,innerP_bad he]
  congr 1
  simp
  omega
 ·rw[if_neg he,show kindC ⟨1,[98,97,116,99,104],0,0,[],0⟩=4 by decide,if_neg (by decide),if_neg (by decide),if_neg (by decide),if_pos rfl,pB_blank (by omega)]
  exact innerP_blank 5 _ _ _
def eP {α:Type}:PR α->Int
 | .bad _ e=>e
 | .ok _ _=>0
def aP {α:Type}:PR α->Int
 | .bad a _=>a
 | .ok _ _=>0
theorem own_nil (B:Nat) (w:World):CmdOwn B w #[.int .i64 0,.string ⟨#[]⟩,.slice none 0 0,.string ⟨#[]⟩,.slice none 0 0,.slice none 0 0,.slice none 0 0,.string ⟨#[]⟩,.int .i64 0,.int .i64 0,.slice none 0 0] cmd0 :=
 ⟨_,_,_,_,_,rfl,World.ownsRow_nil _ _ _ _,World.ownsRow_nil _ _ _ _,atoms_nil _ _,chgs_nil _ _,World.ownsRow_nil _ _ _ _⟩
theorem own_mt {B B':Nat} {w w':World} {cells:Array Value} {c:Cmd} (h:CmdOwn B w cells c) (hm:MT B' [34] w w'):CmdOwn B w' cells c:=by
 obtain⟨cv,hv,av,bv,rv,rfl,h1,h2,h3,h4,h5⟩:=h
 exact⟨cv,hv,av,bv,rv,rfl,hm.ownsRow h1 (by decide),hm.ownsRow h2 (by decide),h3.mt hm (by decide) (by decide),h4.mt hm (by decide) (by decide),hm.ownsRow h5 (by decide)⟩
structure CPair (w:World) (t:ByteArray) (n k e a pl:Int) (c:Cmd):Prop where
 call:∀ W,Below w.heap.size w W->Calls Tryz.prog 13 #[.string t] W fun x W'=>∃ cells,x=.returned (.tuple #[.agg cells,.int .i64 pl,.int .i64 e])/\CmdOwn W.heap.size W' cells c/\Below W.heap.size W W'
 small:SmallC c
 bad:e≠0->pl=a+n
 good:e=0->pl=0/\c.kind=k
theorem cpair_of {α:Type} {w:World} {t:ByteArray} {n k:Int} {z:α} {p:PR α} {f:α->Cmd} (hg:GlobW w) (ht:t.size<=281474976710656) (hk:∀ x,(f x).kind=k) (hb:∀ a e,p=.bad a e->e≠0) (hc:cmdT t.data.toList=innerP n z p f) :
 ∃ pl c,CPair w t n k (eP p) (aP p) pl c/\(∀ x r,p=.ok x r->c=f x)/\(∀ a e,p=.bad a e->c=cmd0):=by
 have hp:=fun W (hW:Below w.heap.size w W)=>cmd_any t W ht (hg.below hW)
 cases p with
 | bad a e =>
   have he:=hb a e rfl
   rw[hc,innerP_bad he] at hp
   refine⟨a+n,cmd0,⟨fun W hW=>(hp W hW).mono ?_,small0,fun _=>rfl,fun q=>absurd q he⟩,(fun x r q=>by cases q),(fun _ _ _=>rfl)⟩
   rintro x W' ⟨rfl,hbl⟩
   exact⟨_,by rw[Int.add_comm];rfl,own_nil _ W',hbl⟩
 | ok x r =>
   have hi:innerP n z (.ok x r) f=.ok (f x) []:=rfl
   rw[hi] at hc
   rw[hc] at hp
   have hsm:=cmdT_small hc
   refine⟨0,f x,⟨fun W hW=>(hp W hW).mono ?_,hsm,fun q=>absurd rfl q,fun _=>⟨rfl,hk x⟩⟩,(fun x' r' q=>by cases q;rfl),(fun _ _ q=>by cases q)⟩
   rintro x' W' ⟨cells,rfl,hown,hbl⟩
   exact⟨cells,rfl,hown,hbl⟩
theorem CmdAt.parts {w:World} {cells:Array Value} {c:Cmd} (h:CmdAt w cells c):∃ (x1 x2 x3:ByteArray) (o1 o2 o3 o4 o5:Option Addr) (n1 l1 n2 l2 n3 l3 n4 l4 n5 l5:Nat),cells=#[.int .i64 c.kind,.string x1,.slice o1 n1 l1,.string x2,.slice o2 n2 l2,.slice o3 n3 l3,.slice o4 n4 l4,.string x3,.int .i64 c.id,.int .i64 c.n,.slice o5 n5 l5] /\
 ⟨c.rel.name.toArray⟩=x1/\⟨c.q.name.toArray⟩=x2/\RowAt w (.slice o1 n1 l1) 2 (c.rel.cols.map Col.cells)/\StrsAt w (.slice o2 n2 l2) c.q.head/\AtomsAt w (.slice o3 n3 l3) c.q.atoms/\ChgsAt w (.slice o4 n4 l4) c.b:=by
 obtain⟨cv,hv,av,bv,rv,rfl,h1,h2,h3,h4,h5⟩:=h
 obtain⟨o1,d1,rfl,_,_⟩:=h1.form
 obtain⟨o2,d2,rfl,_,_⟩:=h2.form
 obtain⟨o3,d3,rfl,_,_⟩:=h3.form
 obtain⟨o4,d4,rfl,_,_⟩:=h4.form
 obtain⟨o5,d5,rfl,_,_⟩:=h5.form
 exact⟨_,_,_,_,_,_,_,_,_,_,_,_,_,_,_,_,_,_,rfl,rfl,rfl,h1,h2,h3,h4⟩
theorem CmdAt.qcells {w:World} {c:Cmd} {a0 a1 a2 a3 a4 a5 a6 a7 a8 a9 a10:Value} (h:CmdAt w #[a0,a1,a2,a3,a4,a5,a6,a7,a8,a9,a10] c):StrsAt w a4 c.q.head/\AtomsAt w a5 c.q.atoms/\ChgsAt w a6 c.b:=by
 obtain⟨cv,hv,av,bv,rv,hh,h1,h2,h3,h4,h5⟩:=h
 rw[Array.mk.injEq] at hh
 simp only[List.cons.injEq] at hh
 rw[hh.2.2.2.2.1,hh.2.2.2.2.2.1,hh.2.2.2.2.2.2.1]
 exact⟨h2,h3,h4⟩
theorem rel_pair (s:ByteArray) (w:World) (hs:s.size<=16000) (hg:GlobW w):∃ (e a pl:Int) (c:Cmd),
 (∀ W,Below w.heap.size w W->Calls Tryz.prog 23 #[.string s] W fun x W'=>∃ cv,x=.returned (.tuple #[.agg #[.string ⟨c.rel.name.toArray⟩,cv],.int .i64 a,.int .i64 e])/\RowAt W' cv 2 (c.rel.cols.map Col.cells)/\Below W.heap.size W W') /\
 CPair w (⟨#[114,101,108,32]⟩++s) 4 1 e a pl c/\0<=a/\a<=16000:=by
 have hsl:s.data.toList.length=s.size:=rfl
 have hsu:=pS_sure s.data.toList
 have hp:=fun W (hW:Below w.heap.size w W)=>sch_any s W (by omega) (hg.g.below hW)
 have hpe:refS (startS (lexR s.data.toList))=pS s.data.toList:=rfl
 rw[hpe] at hp
 have hc:=cmd_rel (s:=s.data.toList) (by omega)
 have ht:(⟨#[114,101,108,32]⟩++s:ByteArray).data.toList=[114,101,108]++32::s.data.toList:=by simp
 rw[<-ht] at hc
 have htz:(⟨#[114,101,108,32]⟩++s:ByteArray).size<=281474976710656:=by rw[ByteArray.size_append];show 4+s.size<=_;omega
 generalize pS s.data.toList=p at *
 have hbd:∀ a e,p=.bad a e->e≠0:=fun a e q=>by rw[q] at hsu;exact hsu.2.2
 obtain⟨pl,c,hcp,h1,h2⟩:=cpair_of (k:=1) hg htz (fun _=>rfl) hbd hc
 cases p with
 | bad a e =>
   obtain rfl:=h2 a e rfl
   refine⟨e,a,pl,cmd0,fun W hW=>(hp W hW).mono ?_,hcp,hsu.1,by have:=hsu.2.1;omega⟩
   rintro x W' ⟨rfl,hbl⟩
   exact⟨_,rfl,RowAt.nil W' 2,hbl⟩
 | ok x r =>
   obtain rfl:=h1 x r rfl
   have hsm:=cmdT_small hc
   refine⟨0,0,pl,_,fun W hW=>(hp W hW).mono ?_,hcp,by omega,by omega⟩
   rintro x' W' ⟨cv,rfl,hown,hbl⟩
   exact⟨cv,rfl,ColsOwn.at hown (Nat.le_trans hsm.cols (by decide)),hbl⟩
def wdI:Nat->List UInt8
 | 0=>[118,105,101,119]
 | 1=>[99,111,114,101]
 | _=>[99,108,97,115,115]
def kdI:Nat->Int
 | 0=>2
 | 1=>15
 | _=>14
theorem query_pair (s:ByteArray) (w:World) (hs:s.size<=16000) (hg:GlobW w):∃ (e a:Int) (q:Qry),
 (∀ W,Below w.heap.size w W->Calls Tryz.prog 25 #[.string s] W fun x W'=>∃ hv av,x=.returned (.tuple #[.agg #[.string ⟨q.name.toArray⟩,hv,av],.int .i64 a,.int .i64 e])/\OwnS W.heap.size W' hv q.head/\AtomsOwn W.heap.size W' av q.atoms/\Below W.heap.size W W') /\
 (∀ i<3,∃ pl c,CPair w (⟨(wdI i++[32]).toArray⟩++s) ((wdI i).length+1) (kdI i) e a pl c/\c.q=q)/\(q.head.length<=200000/\q.atoms.length<=6/\∀ x∈q.atoms,x.ts.length<=5)/\0<=a/\a<=16000:=by
 have hsl:s.data.toList.length=s.size:=rfl
 have hsu:=pQ_sure s.data.toList
 have hp:=fun W (hW:Below w.heap.size w W)=>pQ_any s W (by omega) (hg.g.below hW)
 have hc:∀ i<3,cmdT (⟨(wdI i++[32]).toArray⟩++s:ByteArray).data.toList=innerP ((wdI i).length+1) ⟨[],[],[]⟩ (pQ s.data.toList) (fun y => { cmd0 with kind:=kdI i,q:=y })/\(⟨(wdI i++[32]).toArray⟩++s:ByteArray).size<=281474976710656:=fun i hi=>by
  have ht:(⟨(wdI i++[32]).toArray⟩++s:ByteArray).data.toList=wdI i++32::s.data.toList:=by simp
  rw[ht]
  have hz:(⟨(wdI i++[32]).toArray⟩++s:ByteArray).size=(wdI i).length+1+s.size:=by
   have h1:(⟨(wdI i++[32]).toArray⟩:ByteArray).size=(wdI i).length+1:=by
    show ((wdI i++[32]).toArray).size=_
    rw[List.size_toArray,List.length_append]
    rfl
   rw[ByteArray.size_append,h1]
  rw[hz]
  rcases (by omega:i=0∨i=1∨i=2) with rfl | rfl | rfl
  ·exact⟨cmd_query (by simp [wdI]) (by omega),by simp [wdI];omega⟩
  ·exact⟨cmd_query (by simp [wdI]) (by omega),by simp [wdI];omega⟩
  ·exact⟨cmd_query (by simp [wdI]) (by omega),by simp [wdI];omega⟩
 have hsm:=fun i hi x r (q:pQ s.data.toList=.ok x r)=>cmdT_small (((hc i hi).1.trans (by rw[q])).trans (show innerP _ _ (.ok x r) _=.ok { cmd0 with kind:=kdI i,q:=x } [] from rfl))
 generalize pQ s.data.toList=p at *
 have hbd:∀ a e,p=.bad a e->e≠0:=fun a e q=>by rw[q] at hsu;exact hsu.2.2
 have hcp:=fun i hi=>cpair_of (k:=kdI i) hg (hc i hi).2 (fun _=>rfl) hbd (hc i hi).1
 cases p with
 | bad a e =>
   refine⟨e,a,⟨[],[],[]⟩,fun W hW=>(hp W hW).mono ?_,fun i hi=>?_,⟨by simp,by simp,(fun x hx=>by cases hx)⟩,hsu.1,by have:=hsu.2.1;omega⟩
   ·rintro x W' ⟨rfl,hbl⟩
    exact⟨_,_,rfl,World.ownsRow_nil _ _ _ _,atoms_nil _ _,hbl⟩
   ·obtain⟨pl,c,h,h1,h2⟩:=hcp i hi
    exact⟨pl,c,h,by rw[h2 a e rfl];rfl⟩
 | ok x r =>
   have h:=hsm 0 (by omega) x r rfl
   refine⟨0,0,x,fun W hW=>(hp W hW).mono ?_,fun i hi=>?_,⟨h.head,h.atoms,h.terms⟩,by omega,by omega⟩
   ·rintro x' W' ⟨hv,av,rfl,ho1,ho2,hbl⟩
    exact⟨hv,av,rfl,ho1,ho2,hbl⟩
   ·obtain⟨pl,c,h,h1,h2⟩:=hcp i hi
    exact⟨pl,c,h,by rw[h1 x r rfl]⟩
theorem batch_pair (s:ByteArray) (w:World) (hs:s.size<=16000) (hg:GlobW w):∃ (e a pl:Int) (c:Cmd),
 (∀ W,Below w.heap.size w W->Calls Tryz.prog 27 #[.string s] W fun x W'=>∃ bv,x=.returned (.tuple #[bv,.int .i64 a,.int .i64 e])/\ChgsOwn W.heap.size W' bv c.b/\Below W.heap.size W W') /\
 CPair w (⟨#[98,97,116,99,104,32]⟩++s) 6 4 e a pl c/\0<=a/\a<=16000:=by
 have hsl:s.data.toList.length=s.size:=rfl
 have hsu:=parseB_sure s.data.toList
 have hp:=fun W (hW:Below w.heap.size w W)=>batch_any s W (by omega) (hg.g.below hW)
 have hc:=cmd_batch (s:=s.data.toList) (by omega)
 have ht:(⟨#[98,97,116,99,104,32]⟩++s:ByteArray).data.toList=[98,97,116,99,104]++32::s.data.toList:=by simp
 rw[<-ht] at hc
 have htz:(⟨#[98,97,116,99,104,32]⟩++s:ByteArray).size<=281474976710656:=by rw[ByteArray.size_append];show 6+s.size<=_;omega
 generalize parseB s.data.toList=p at *
 have hbd:∀ a e,p=.bad a e->e≠0:=fun a e q=>by rw[q] at hsu;exact hsu.2.2
 obtain⟨pl,c,hcp,h1,h2⟩:=cpair_of (k:=4) hg htz (fun _=>rfl) hbd hc
 cases p with
 | bad a e =>
   obtain rfl:=h2 a e rfl
   refine⟨e,a,pl,cmd0,fun W hW=>(hp W hW).mono ?_,hcp,hsu.1,by have:=hsu.2.1;omega⟩
   rintro x W' ⟨rfl,hbl⟩
   exact⟨_,rfl,chgs_nil _ _,hbl⟩
 | ok x r =>
   obtain rfl:=h1 x r rfl
   refine⟨0,0,pl,_,fun W hW=>(hp W hW).mono ?_,hcp,by omega,by omega⟩
   rintro x' W' ⟨bv,rfl,hown,hbl⟩
   exact⟨bv,rfl,hown,hbl⟩
end Go.Proofs.YtamjadghncnbcaaGreatDoor
