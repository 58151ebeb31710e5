/- Reading further to the right: the tokens and what the lower layers read move their places alone; plainly. A command's text is read back as the command; plainly. -/
import Derived.Test.YtamjadghncnbcaaGreatDoorDcO
import Derived.Test.YtamjadghncnbcaaGreatDoorTpO
import Derived.Test.YtamjadghncnbcaaGreatDoorJyO
import Derived.Test.YtamjadghncnbcaaGreatDoorBbO
namespace Go.Proofs.YtamjadghncnbcaaGreatDoor
open Go.RowKit
set_option linter.unusedVariables false
def shT (k:Nat) (t:Tok):Tok:=⟨t.k,t.x,t.vk,t.vn,t.vt,t.p+k⟩
def pl (k:Nat) (a e:Int):Int:=if e=0 then a else a+k
def shL (k:Nat) (R:LxR):LxR:=⟨R.ts.map (shT k),pl k R.at_ R.e,R.e⟩
theorem one_sh {r:List UInt8} {p k:Nat} (h:(oneS r (p:Int)).2=0):(oneS r ((p+k:Nat):Int)).2=0/\(oneS r ((p+k:Nat):Int)).1=shT k (oneS r (p:Int)).1:=by
 obtain⟨h1,h2⟩:=one_place (r:=r) (p:Int) ((p+k:Nat):Int)
 rw[h] at h1
 obtain⟨_,h3⟩:=one_kind h
 obtain⟨_,h4⟩:=one_kind h1.symm
 refine⟨h1.symm,?_⟩
 generalize (oneS r ((p+k:Nat):Int)).1=b at *
 generalize (oneS r (p:Int)).1=a at *
 obtain⟨a1,a2,a3,a4,a5,a6⟩:=a
 obtain⟨b1,b2,b3,b4,b5,b6⟩:=b
 obtain⟨e1,e2,e3,e4,e5⟩:=h2
 simp only at e1 e2 e3 e4 e5 h3 h4
 subst e1 e2 e3 e4 e5 h3 h4
 simp [shT]
theorem LX_sh (k:Nat):∀ (m:Nat) (r:List UInt8) (p:Nat),r.length<=m->LX r (p+k)=shL k (LX r p):=by
 intro m
 induction m with
 | zero =>
   intro r p hr
   have h:r=[]:=List.length_eq_zero_iff.1 (by omega)
   rw[LX_end (.inl h),LX_end (.inl h),h]
   simp [shL,pl,endTok,shT]
 | succ m ih =>
   intro r p hr
   by_cases h:r=[]∨bt r 0=35
   ·rw[LX_end h,LX_end h]
    simp only[shL,pl,List.map_cons,List.map_nil,shT,endTok,LxR.mk.injEq,List.cons.injEq,Tok.mk.injEq,and_true,true_and,if_true]
    omega
   ·have hl:=List.length_pos_iff.2 (fun e=>h (.inl e))
    cases hb:spB (bt r 0) with
    | true =>
      rw[LX_blank h hb,LX_blank h hb,show p+k+1=p+1+k by omega]
      exact ih _ _ (by rw[List.length_drop];omega)
    | false =>
      by_cases he:(oneS r (p:Int)).2=0
      ·obtain⟨h1,h2⟩:=one_sh (k:=k) he
       have h3:=(one_len (r:=r) (p:=p) he (fun e=>h (.inl e))).1
       rw[LX_one h hb he,LX_one h hb h1,h2]
       have hx:(shT k (oneS r (p:Int)).1).x=(oneS r (p:Int)).1.x:=rfl
       rw[hx,show p+k+(oneS r (p:Int)).1.x.length=p+(oneS r (p:Int)).1.x.length+k by omega,ih _ _ (by rw[List.length_drop];omega)]
       generalize LX (r.drop (oneS r (p:Int)).1.x.length) (p+(oneS r (p:Int)).1.x.length)=R
       have e1:(shL k R).e=R.e:=rfl
       rw[e1]
       by_cases q:R.e≠0
       ·rw[if_pos q,if_pos q]
       ·rw[if_neg q,if_neg q]
        simp [shL,pl]
      ·have h1:=(one_place (r:=r) (p:Int) ((p+k:Nat):Int)).1
       rw[LX_bad h hb he,LX_bad h hb (by rw[<-h1];exact he),<-h1]
       simp only[shL,pl,List.map_nil,LxR.mk.injEq,and_true,true_and]
       rw[if_neg he]
       omega
theorem lexR_blank {s:List UInt8} (h:s.length+1<=16384):lexR (32::s)=shL 1 (lexR s):=by
 rw[lexR_short (by rw[List.length_cons];omega),lexR_short (by omega)]
 have:=LX_skip [32] s (by simp) 0
 rw[show ([32]:List UInt8)++s=32::s from rfl] at this
 rw[this]
 exact LX_sh 1 _ s 0 (Nat.le_refl _)
theorem one_named {l:List UInt8} (h:isNameB l=true):l≠[]/\bt l 0≠35/\spB (bt l 0)=false/\oneS l ((0:Nat):Int)=(⟨1,l,0,0,[],0⟩,0):=by
 unfold isNameB at h
 simp only[decide_eq_true_eq] at h
 obtain⟨h1,h2,h3,h4⟩:=h
 have hb:∀ c:Int,letB c=true->c≠35/\spB c=false/\c≠58/\c≠34/\digB c=false/\c≠45/\c≠40/\c≠41/\c≠44/\c≠43:=by
  intro c hc
  unfold letB at hc
  unfold spB digB
  simp only[decide_eq_true_eq,decide_eq_false_iff_not] at hc ⊢
  omega
 obtain⟨c1,c2,c3,c4,c5,c6,c7,c8,c9,c10⟩:=hb _ h2
 refine⟨h1,c1,c2,?_⟩
 unfold oneS
 rw[if_neg c3,if_neg (by rw[c5];simp [c4,c6]),if_neg (by simp [c6,c7,c8,c9,c10]),if_pos h2,if_neg (by omega),h3,List.take_length]
 rfl
theorem lexR_word {x s:List UInt8} (hx:isNameB x=true) (h:x.length+1+s.length<=16384) :
 lexR (x++32::s)=if (lexR s).e≠0 then ⟨(lexR s).ts.map (shT (x.length+1)),(lexR s).at_+(x.length+1:Nat),(lexR s).e⟩ else ⟨⟨1,x,0,0,[],0⟩::(lexR s).ts.map (shT (x.length+1)),0,0⟩:=by
 obtain⟨h1,h2,h3,h4⟩:=one_named hx
 rw[lexR_short (by rw[List.length_append,List.length_cons];omega),lexR_short (l:=s) (by omega)]
 have h5:=LX_step (x:=x) (y:=32::s) (rest:=[]) (p:=0) (q:=0) (by rw[List.append_nil];exact fun e=>e.elim h1 h2) (by rw[List.append_nil];exact h3) (by rw[List.append_nil,h4]) (by rw[List.append_nil,h4]) (.inr (.inl (by simp [bt])))
 rw[h5,List.append_nil,h4]
 have h6:LX (32::s) (0+x.length)=shL (x.length+1) (LX s 0):=by
  have:=LX_skip [32] s (by simp) (0+x.length)
  rw[show ([32]:List UInt8)++s=32::s from rfl] at this
  rw[this,<-LX_sh (x.length+1) _ s 0 (Nat.le_refl _)]
  congr 1
 rw[h6]
 generalize LX s 0=R
 by_cases q:R.e≠0
 ·rw[if_pos q,if_pos (show (shL (x.length+1) R).e≠0 from q)]
  simp only[shL,pl]
  rw[if_neg q]
 ·rw[if_neg q,if_neg (show ¬ (shL (x.length+1) R).e≠0 from q)]
  rfl
def mapP {α β:Type} (k:Nat) (g:α->β):PR α->PR β
 | .bad a e=>.bad (pl k a e) e
 | .ok x c=>.ok (g x) (c.map (shT k))
def ShP {α:Type} (k:Nat) (g:α->α) (P:List Tok->PR α):Prop:=∀ c,P (c.map (shT k))=mapP k g (P c)
section
variable {α β : Type} {k : Nat} {g : α -> α}
theorem tk_sh (K:Int) (xs:List (List UInt8)):ShP k (shT k) (tk K xs):=by
 intro c
 cases c with
 | nil=>simp [tk,mapP,pl]
 | cons t r =>
   have e1:(shT k t).k=t.k:=rfl
   have e2:(shT k t).x=t.x:=rfl
   simp only[List.map_cons,tk,e1,e2]
   by_cases h:t.k=K/\(xs=[]∨t.x∈xs)
   ·rw[if_pos h,if_pos h]
    by_cases h0:K=0<;>simp [h0,mapP]
   ·rw[if_neg h,if_neg h]
    simp [mapP,pl,shT]
theorem isM_sh (m:List UInt8) (c:List Tok):isM m (c.map (shT k))=isM m c:=by cases c<;>rfl
theorem more_sh {P:List Tok->PR α} (h:ShP k g P):∀ (f:Nat),ShP k (List.map g) (moreP P f):=by
 intro f
 induction f with
 | zero=>intro c;rfl
 | succ f ih =>
   intro c
   unfold moreP
   rw[isM_sh]
   by_cases hm:isM [44] c=true
   ·rw[if_pos hm,if_pos hm,<-List.map_drop,h]
    cases P (c.drop 1) with
    | bad a e=>rfl
    | ok x c1 =>
      simp only[mapP]
      rw[ih c1]
      cases moreP P f c1<;>rfl
   ·rw[if_neg hm,if_neg hm]
    rfl
theorem some_sh {P:List Tok->PR α} (h:ShP k g P):ShP k (List.map g) (someP P):=by
 intro c
 unfold someP
 rw[h]
 cases P c with
 | bad a e=>rfl
 | ok x c1 =>
   simp only[mapP,List.length_map]
   rw[more_sh h]
   cases moreP P c1.length c1<;>rfl
theorem list_sh {P:List Tok->PR α} (h:ShP k g P):ShP k (List.map g) (listP P):=by
 intro c
 unfold listP
 rw[tk_sh]
 cases tk 3 [[40]] c with
 | bad a e=>rfl
 | ok t c1 =>
   simp only[mapP]
   rw[isM_sh]
   have hz:(if isM [41] c1=true then (.ok [] (c1.map (shT k)):PR (List α)) else someP P (c1.map (shT k)))=mapP k (List.map g) (if isM [41] c1=true then .ok [] c1 else someP P c1):=by
    split
    ·rfl
    ·exact some_sh h c1
   rw[hz]
   cases (if isM [41] c1=true then (.ok [] c1:PR (List α)) else someP P c1) with
   | bad a e=>rfl
   | ok xs c2 =>
     simp only[mapP]
     rw[tk_sh]
     cases tk 3 [[41]] c2<;>rfl
end
section
variable {k : Nat}
theorem col_sh:ShP k (fun z:ClP=>(z.1,z.2.1,z.2.2+k)) colP:=by
 intro c
 unfold colP
 rw[tk_sh]
 cases tk 1 [] c with
 | bad a e=>rfl
 | ok t c1 =>
   simp only[mapP]
   rw[tk_sh]
   cases tk 1 [[105,110,116],[116,101,120,116]] c1<;>rfl
theorem name_sh:ShP k (fun z:List UInt8 × Int=>(z.1,z.2+k)) nameP:=by
 intro c
 unfold nameP
 rw[tk_sh]
 cases tk 1 [] c<;>rfl
theorem term_sh:ShP k (fun z:Trm × Int=>(z.1,z.2+k)) termP:=by
 intro c
 have hl:litT (c.map (shT k))=litT c:=by cases c<;>rfl
 unfold termP
 rw[hl,tk_sh,tk_sh]
 split
 ·cases tk 2 [] c<;>rfl
 ·cases tk 1 [] c<;>rfl
def shA (k:Nat) (z:AtP):AtP:=((z.1.1,z.1.2+k),z.2.map fun u=>(u.1,u.2+k))
theorem atom_sh:ShP k (shA k) atomP:=by
 intro c
 unfold atomP
 rw[name_sh]
 cases nameP c with
 | bad a e=>rfl
 | ok x c1 =>
   simp only[mapP]
   rw[list_sh term_sh]
   cases listP termP c1<;>rfl
theorem lit_sh:ShP k id litP:=by
 intro c
 unfold litP
 rw[tk_sh]
 cases tk 2 [] c<;>rfl
theorem chg_sh:ShP k (fun z:ChP=>(z.1,z.2+k)) chgP:=by
 intro c
 unfold chgP
 rw[tk_sh]
 cases tk 3 sgnX c with
 | bad a e=>rfl
 | ok s c1 =>
   simp only[mapP]
   rw[tk_sh]
   cases tk 1 [] c1 with
   | bad a e=>rfl
   | ok t c2 =>
     simp only[mapP]
     rw[list_sh lit_sh]
     cases listP litP c2 with
     | bad a e=>rfl
     | ok l c3 =>
       simp only[mapP,List.map_id]
       rfl
theorem chkS_sh (nm:List UInt8) (l:List ClP):chkS nm (l.map fun z=>(z.1,z.2.1,z.2.2+(k:Int)))=mapP k id (chkS nm l):=by
 have e1:(l.map fun z:ClP=>(z.1,z.2.1,z.2.2+(k:Int))).map clC=l.map clC:=by rw[List.map_map];rfl
 unfold chkS rlnOf
 rw[e1,List.getElem?_map,List.getElem?_map]
 cases l[5]? with
 | some c=>simp [mapP,pl]
 | none =>
   simp only[Option.map_none]
   cases l[(againI (l.map clC)).toNat]? with
   | none=>rfl
   | some h=>cases decide (0<=againI (l.map clC))<;>simp [mapP,pl]
theorem schT_sh (c:List Tok):schT (c.map (shT k))=mapP k id (schT c):=by
 unfold schT
 rw[tk_sh]
 cases tk 1 [] c with
 | bad a e=>rfl
 | ok t c1 =>
   simp only[mapP]
   rw[list_sh col_sh]
   cases listP colP c1 with
   | bad a e=>rfl
   | ok l c2 =>
     simp only[mapP]
     rw[tk_sh]
     cases tk 0 [] c2 with
     | bad a e=>rfl
     | ok u c3=>exact chkS_sh t.x l
theorem limG_sh:∀ l:List AtP,limG (l.map (shA k))=(limG l).map fun x=>(x.1+(k:Int),x.2)
 | []=>rfl
 | a::r=>by
   unfold limG
   simp only[List.map_cons,shA,List.getElem?_map]
   cases a.2[5]? with
   | some t=>rfl
   | none=>exact limG_sh r
theorem limG_code:∀ {l:List AtP} {x:Int × Int},limG l=some x->x.2=91
 | a::r,x,h=>by
   unfold limG at h
   cases h5:a.2[5]? with
   | some t=>rw[h5] at h;simp only[Option.some.injEq] at h;rw[<-h]
   | none=>rw[h5] at h;exact limG_code h
theorem chkP_sh (n:List UInt8 × Int) (hs:List (List UInt8 × Int)) (l:List AtP):chkP (n.1,n.2+(k:Int)) (hs.map fun z=>(z.1,z.2+(k:Int))) (l.map (shA k))=mapP k id (chkP n hs l):=by
 have e1:(hs.map fun z:List UInt8 × Int=>(z.1,z.2+(k:Int))).map (·.1)=hs.map (·.1):=by rw[List.map_map];rfl
 have e2:qryOf (n.1,n.2+(k:Int)) (hs.map fun z=>(z.1,z.2+(k:Int))) (l.map (shA k))=qryOf n hs l:=by
  unfold qryOf
  simp [shA,Function.comp_def]
 have e3:limP (l.map (shA k))=(limP l).map fun x=>(x.1+(k:Int),x.2):=by
  unfold limP
  rw[List.getElem?_map]
  cases l[6]? with
  | some a=>rfl
  | none=>exact limG_sh l
 have e4:∀ x,limP l=some x->x.2≠0:=by
  intro x hx
  unfold limP at hx
  cases h6:l[6]? with
  | some a=>rw[h6] at hx;simp only[Option.some.injEq] at hx;rw[<-hx];exact (by decide:(90:Int)≠0)
  | none=>rw[h6] at hx;rw[limG_code hx];decide
 unfold chkP
 rw[e1,e2,e3]
 cases hl:limP l with
 | some x =>
   have:=e4 x hl
   simp [mapP,pl,this]
 | none =>
   simp only[Option.map_none,List.getElem?_map]
   generalize hs[(dupI (hs.map (·.1))).toNat]? = A
   generalize decide (0<=dupI (hs.map (·.1)))=B
   generalize hs[(lackI (qVars (qryOf n hs l).atoms) (hs.map (·.1))).toNat]? = C
   generalize decide (0<=lackI (qVars (qryOf n hs l).atoms) (hs.map (·.1)))=D
   rcases A with _ | x<;>rcases B with _ | _<;>rcases C with _ | y<;>rcases D with _ | _<;>simp [mapP,pl]
theorem queryT_sh (c:List Tok):queryT (c.map (shT k))=mapP k id (queryT c):=by
 unfold queryT
 rw[name_sh]
 cases nameP c with
 | bad a e=>rfl
 | ok n c1 =>
   simp only[mapP]
   rw[list_sh name_sh]
   cases listP nameP c1 with
   | bad a e=>rfl
   | ok hs c2 =>
     simp only[mapP]
     rw[tk_sh]
     cases tk 3 [[58,45]] c2 with
     | bad a e=>rfl
     | ok u c3 =>
       simp only[mapP]
       rw[some_sh atom_sh]
       cases someP atomP c3 with
       | bad a e=>rfl
       | ok l c4 =>
         simp only[mapP]
         rw[tk_sh]
         cases tk 0 [] c4 with
         | bad a e=>rfl
         | ok v c5=>exact chkP_sh n hs l
theorem chgs_sh:ShP k (List.map fun z:ChP=>(z.1,z.2+(k:Int))) chgsP:=by
 intro c
 have hl:endT (c.map (shT k))=endT c:=by cases c<;>rfl
 unfold chgsP
 rw[hl]
 split
 ·rfl
 ·exact some_sh chg_sh c
theorem chkB_sh {N:Nat} {l:List ChP} (h:∀ z∈l,ChgR N z):chkB (l.map fun z=>(z.1,z.2+(k:Int)))=mapP k id (chkB l):=by
 have e1:(l.map fun z:ChP=>(z.1,z.2+(k:Int))).map (·.1)=l.map (·.1):=by rw[List.map_map];rfl
 unfold chkB overP
 rw[e1,List.getElem?_map]
 cases hz:l[256]? with
 | none=>rfl
 | some z =>
   have:=(h z (List.mem_of_getElem? hz)).2.2.1
   simp only[Option.map_some]
   rw[if_pos this,if_pos (by omega)]
   simp [mapP,pl]
theorem batchT_sh {N:Nat} {c:List Tok} (h:TInvQ N c):batchT (c.map (shT k))=mapP k id (batchT c):=by
 unfold batchT
 rw[chgs_sh]
 have h1:=chgs_sure N c h
 cases hc:chgsP c with
 | bad a e=>rfl
 | ok l c1 =>
   rw[hc] at h1
   simp only[mapP]
   rw[tk_sh]
   cases tk 0 [] c1 with
   | bad a e=>rfl
   | ok u c2=>exact chkB_sh h1.1
end
theorem pS_blank {s:List UInt8} (h:s.length+1<=16384):pS (32::s)=mapP 1 id (pS s):=by
 have h1:=lexR_blank h
 have e1:(lexR (32::s)).e=(lexR s).e:=by rw[h1];rfl
 unfold pS startS
 rw[e1]
 by_cases he:(lexR s).e=0
 ·rw[if_pos he,if_pos he,refS_ok (lex_ended (e1.trans he)).1,refS_ok (lex_ended he).1,h1]
  exact schT_sh _
 ·rw[if_neg he,if_neg he,refS_bad,refS_bad,h1]
  rfl
theorem pQ_blank {s:List UInt8} (h:s.length+1<=16384):pQ (32::s)=mapP 1 id (pQ s):=by
 have h1:=lexR_blank h
 have e1:(lexR (32::s)).e=(lexR s).e:=by rw[h1];rfl
 unfold pQ startS
 rw[e1]
 by_cases he:(lexR s).e=0
 ·rw[if_pos he,if_pos he,refQ_ok (lex_ended (e1.trans he)).1,refQ_ok (lex_ended he).1,h1]
  exact queryT_sh _
 ·rw[if_neg he,if_neg he,refQ_bad,refQ_bad,h1]
  rfl
theorem pB_blank {s:List UInt8} (h:s.length+1<=16384):parseB (32::s)=mapP 1 id (parseB s):=by
 have h1:=lexR_blank h
 have e1:(lexR (32::s)).e=(lexR s).e:=by rw[h1];rfl
 unfold parseB
 rw[e1]
 by_cases he:(lexR s).e=0
 ·rw[if_pos he,if_pos he,h1]
  exact batchT_sh (lex_toksQ he (lex_ended he).1)
 ·rw[if_neg he,if_neg he,h1]
  rfl
theorem cmd_word {x s:List UInt8} (hx:isNameB x=true) (h:x.length+1+s.length<=16384) (pS':List UInt8->PR Rln) (pQ':List UInt8->PR Qry) (pB':List UInt8->PR (List Chg)) :
 parseC pS' pQ' pB' (x++32::s)=if (lexR s).e≠0 then .bad ((lexR s).at_+(x.length+1:Nat)) (lexR s).e else
  if kindC ⟨1,x,0,0,[],0⟩=0 then .bad 0 250
  else if kindC ⟨1,x,0,0,[],0⟩=1 then innerP x.length ⟨[],[]⟩ (pS' (32::s)) fun x => { cmd0 with kind:=1,rel:=x }
  else if kindC ⟨1,x,0,0,[],0⟩=2∨kindC ⟨1,x,0,0,[],0⟩=14∨kindC ⟨1,x,0,0,[],0⟩=15 then innerP x.length ⟨[],[],[]⟩ (pQ' (32::s)) fun y => { cmd0 with kind:=kindC ⟨1,x,0,0,[],0⟩,q:=y }
  else if kindC ⟨1,x,0,0,[],0⟩=4 then innerP x.length [] (pB' (32::s)) fun x => { cmd0 with kind:=4,b:=x }
  else endC (fieldsP (kindC ⟨1,x,0,0,[],0⟩) ((lexR s).ts.map (shT (x.length+1)))):=by
 unfold parseC
 rw[lexR_word hx h]
 by_cases he:(lexR s).e≠0
 ·rw[if_pos he,if_pos he]
  simp only
  rw[if_pos he]
 ·rw[if_neg he,if_neg he]
  simp only[ne_eq,not_true,if_false]
  have e1:(x++32::s).drop ((0:Int).toNat+x.length)=32::s:=by
   rw[show (0:Int).toNat+x.length=x.length by simp,List.drop_left]
  rw[e1,Int.zero_add]
theorem word_at {k:Int} (h1:1<=k) (h2:k<=18):kindC ⟨1,wordN k,0,0,[],0⟩=k/\isNameB (wordN k)=true:=by
 have hall:∀ n<18,kindC ⟨1,wordsC.getD n [],0,0,[],0⟩=(n:Int)+1/\isNameB (wordsC.getD n [])=true:=by decide
 have:=hall (k - 1).toNat (by omega)
 unfold wordN
 refine⟨this.1.trans (by omega),this.2⟩
theorem nm_sh (k:Nat):ShP k id nmP1:=by
 intro c
 unfold nmP1
 rw[tk_sh]
 cases tk 1 [] c<;>rfl
theorem num_sh (k:Nat):ShP k id numP:=by
 intro c
 cases c with
 | nil=>simp [numP,mapP,pl]
 | cons t r =>
   have e1:(shT k t).k=t.k:=rfl
   have e2:(shT k t).vk=t.vk:=rfl
   have e3:=tk_sh (k:=k) 2 [] (t::r)
   rw[List.map_cons] at e3
   simp only[List.map_cons,numP,e1,e2]
   split
   ·rw[e3]
    cases tk 2 [] (t::r)<;>rfl
   ·simp [mapP,pl,shT]
theorem vals_sh (k:Nat):ShP k id (listP litP):=by
 intro c
 rw[list_sh lit_sh]
 cases listP litP c with
 | bad a e=>rfl
 | ok x c1=>simp [mapP]
theorem bind_sh {α β:Type} {k:Nat} {P:List Tok->PR α} (h:ShP k id P) {F:α->List Tok->PR β} (hF:∀ x,ShP k id (F x)):ShP k id (fun c=>bindP (P c) F):=by
 intro c
 show bindP (P (c.map (shT k))) F=mapP k id (bindP (P c) F)
 rw[h]
 cases P c with
 | bad a e=>rfl
 | ok x c1=>exact hF x c1
theorem ok_sh {β:Type} {k:Nat} (y:β):ShP k id (fun c=>(.ok y c:PR β)):=fun c=>rfl
theorem fields_sh (k:Nat) (K:Int):ShP k id (fieldsP K):=by
 intro c
 unfold fieldsP
 split
 ·exact bind_sh (nm_sh k) (fun x=>ok_sh _) c
 ·split
  ·exact bind_sh (num_sh k) (fun x=>ok_sh _) c
  ·split
   ·exact bind_sh (num_sh k) (fun x=>bind_sh (num_sh k) (fun y=>ok_sh _)) c
   ·split
    ·exact bind_sh (nm_sh k) (fun x=>bind_sh (num_sh k) (fun y=>ok_sh _)) c
    ·split
     ·exact bind_sh (nm_sh k) (fun x=>bind_sh (vals_sh k) (fun y=>ok_sh _)) c
     ·rfl
theorem end_sh (k:Nat) (K:Int):ShP k id (fun c=>endC (fieldsP K c)) :=
 bind_sh (fields_sh k K) fun x=>(fun c=>by
  show bindP (tk 0 [] (c.map (shT k))) _=_
  unfold bindP
  rw[tk_sh]
  cases tk 0 [] c<;>rfl)
def normC (c:Cmd):Cmd :=
 if c.kind=1 then { cmd0 with kind:=1,rel:=c.rel }
 else if c.kind=2∨c.kind=14∨c.kind=15 then { cmd0 with kind:=c.kind,q:=c.q }
 else if c.kind=4 then { cmd0 with kind:=4,b:=c.b }
 else if c.kind=3∨c.kind=5∨c.kind=6∨c.kind=10∨c.kind=13 then { cmd0 with kind:=c.kind,nm:=c.nm }
 else if c.kind=8∨c.kind=9 then { cmd0 with kind:=c.kind,id:=c.id }
 else if c.kind=7 then { cmd0 with kind:=7,id:=c.id,n:=c.n }
 else if c.kind=11 then { cmd0 with kind:=11,nm:=c.nm,n:=c.n }
 else if c.kind=12 then { cmd0 with kind:=12,nm:=c.nm,row:=c.row }
 else { cmd0 with kind:=c.kind }
theorem itoa_show (n:Int):Lib.itoa n=showR 1 n []:=by simp [showR,validB]
theorem lz_num {n:Int} {y:List UInt8} {p:Nat} {ts:List Tok} (hn : -9223372036854775808<=n/\n<=9223372036854775807) (hy:sepZ y) (h:LZ y (p+(Lib.itoa n).length) ts):LZ (Lib.itoa n++y) p (⟨2,Lib.itoa n,1,n,[],p⟩::ts):=by
 rw[itoa_show n] at h ⊢
 exact lz_lit (by simp [validB]) hn.1 hn.2 hy h
theorem sep0:sepZ []:=by simp [sepZ,bt,letB,digB]
theorem sep32 (y:List UInt8):sepZ (32::y):=by simp [sepZ,bt,letB,digB]
theorem sep40 (y:List UInt8):sepZ (40::y):=by simp [sepZ,bt,letB,digB]
theorem fields_back {c:Cmd} (hB:TxtB c) (hg:(restG c).2=true) (hk:c.kind=3∨c.kind=5∨c.kind=6∨c.kind=10∨c.kind=13∨c.kind=8∨c.kind=9∨c.kind=7∨c.kind=11∨c.kind=12) :
 ∃ ts r,LZ (restG c).1 0 ts/\endC (fieldsP c.kind ts)=.ok (normC c) r:=by
 have e0:∀ n,tk 0 [] [endTok n]=.ok (endTok n) [endTok n]:=fun n=>by simp [tk,endTok]
 have en:∀ x p r,nmP1 (nmZ x p::r)=.ok x r:=fun x p r=>by simp [nmP1,tk,nmZ]
 have ei:∀ n p r,numP (⟨2,Lib.itoa n,1,n,[],p⟩::r)=.ok n r:=fun n p r=>by simp [numP,tk]
 rcases (by omega:(c.kind=3∨c.kind=5∨c.kind=6∨c.kind=10∨c.kind=13)∨(c.kind=8∨c.kind=9)∨c.kind=7∨c.kind=11∨c.kind=12) with h | h | h | h | h
 ·rw[restG_n h] at hg ⊢
  have hz:=lz_nm (p:=0) (y:=[]) (ts:=[endTok (0+c.nm.length)]) hg sep0 (lz_end _)
  rw[List.append_nil] at hz
  refine⟨_,[endTok (0+c.nm.length)],hz,?_⟩
  rcases h with h | h | h | h | h<;>simp [h,fieldsP,endC,bindP,en,e0,normC]
 ·rw[restG_i h] at hg ⊢
  have hz:=lz_num (n:=c.id) (p:=0) (y:=[]) (ts:=[endTok (0+(Lib.itoa c.id).length)]) hB.id sep0 (lz_end _)
  rw[List.append_nil] at hz
  refine⟨_,[endTok (0+(Lib.itoa c.id).length)],hz,?_⟩
  rcases h with h | h<;>simp [h,fieldsP,endC,bindP,ei,e0,normC]
 ·rw[restG_7 h] at hg ⊢
  have hz:=lz_num (n:=c.n) (p:=0+(Lib.itoa c.id).length+1) (y:=[]) hB.n sep0 (lz_end _)
  rw[List.append_nil] at hz
  have hy:=lz_num (n:=c.id) (p:=0) hB.id (sep32 _) (lz_sp hz)
  refine⟨_,[endTok (0+(Lib.itoa c.id).length+1+(Lib.itoa c.n).length)],hy,?_⟩
  simp [h,fieldsP,endC,bindP,ei,e0,normC]
 ·rw[restG_11 h] at hg ⊢
  have hz:=lz_num (n:=c.n) (p:=0+c.nm.length+1) (y:=[]) hB.n sep0 (lz_end _)
  rw[List.append_nil] at hz
  have hy:=lz_nm (p:=0) hg (sep32 _) (lz_sp hz)
  refine⟨_,[endTok (0+c.nm.length+1+(Lib.itoa c.n).length)],hy,?_⟩
  simp [h,fieldsP,endC,bindP,en,ei,e0,normC]
 ·rw[restG_12 h] at hg ⊢
  rw[Bool.and_eq_true] at hg
  have er:showRow c.row=40::(Lib.join (c.row.map showV) [44,32]++41::[]):=by unfold showRow;rw[if_pos hg.2];rfl
  obtain⟨toks,zs,k1,k2,k3⟩:=list_reads lit_less c.row [] (0+c.nm.length) [endTok (0+c.nm.length+1+(Lib.join (c.row.map showV) [44,32]).length+1)] (fun u hu=>lit_reads ((rowB_all hg.2).2 u hu) (hB.row u hu)) (lz_end _)
  have hz:zs=c.row:=by simpa using k2
  subst hz
  have hy:=lz_nm (p:=0) hg.1 (sep40 _) k1
  rw[<-er] at hy
  simp only[Nat.zero_add] at k3 hy
  refine⟨_,[endTok (c.nm.length+1+(Lib.join (c.row.map showV) [44,32]).length+1)],hy,?_⟩
  simp [h,fieldsP,endC,bindP,en,k3,e0,normC]
theorem itoa_nil (n:Int):Lib.itoa n≠[]:=by
 rcases itoa_cases n with ⟨u,_,e⟩ | ⟨u,_,_,e⟩
 ·rw[e];exact dec_ne u
 ·rw[e];simp
theorem word_alone {k:Int} (h:k=4∨k=16∨k=17∨k=18):∃ r,cmdT (wordN k)=.ok { cmd0 with kind:=k } r:=by
 rcases h with rfl | rfl | rfl | rfl
 ·exact⟨_,(by kernel_rfl:cmdT (wordN 4)=.ok { cmd0 with kind:=4 } [])⟩
 ·exact⟨_,(by kernel_rfl:cmdT (wordN 16)=.ok { cmd0 with kind:=16 } [endTok 4])⟩
 ·exact⟨_,(by kernel_rfl:cmdT (wordN 17)=.ok { cmd0 with kind:=17 } [endTok 4])⟩
 ·exact⟨_,(by kernel_rfl:cmdT (wordN 18)=.ok { cmd0 with kind:=18 } [endTok 7])⟩
theorem cmd_back {c:Cmd} (hB:TxtB c) (hs:textC c≠[]) (hl:(textC c).length<=16384) (hb:c.kind=4->c.b.length<=256):∃ r,cmdT (textC c)=.ok (normC c) r:=by
 by_cases hk:1<=c.kind/\c.kind<=18
 case neg=>exact absurd (textC_out hk) hs
 rw[textC_rest hk.1 hk.2] at hs hl ⊢
 by_cases hg:(restG c).2=false
 ·rw[if_pos hg] at hs
  exact absurd rfl hs
 rw[if_neg hg] at hs hl ⊢
 have hg1:(restG c).2=true:=by simpa using hg
 obtain⟨w1,w2⟩:=word_at hk.1 hk.2
 by_cases hr:(restG c).1=[]
 ·rw[if_pos hr]
  rcases (by omega:c.kind=1∨(c.kind=2∨c.kind=14∨c.kind=15)∨c.kind=4∨(c.kind=3∨c.kind=5∨c.kind=6∨c.kind=10∨c.kind=13)∨(c.kind=8∨c.kind=9)∨c.kind=7∨c.kind=11∨c.kind=12∨(c.kind=16∨c.kind=17∨c.kind=18)) with h | h | h | h | h | h | h | h | h
  ·rw[restG_1 h] at hr hg1
   simp only at hr hg1
   simp [hr] at hg1
  ·rw[restG_q h] at hr hg1
   simp only at hr hg1
   simp [hr] at hg1
  ·rw[restG_4 h] at hr hg1
   simp only at hr hg1
   simp [hr] at hg1
   obtain⟨r,e⟩:=word_alone (.inl h)
   refine⟨r,?_⟩
   rw[e]
   simp [normC,h,hg1,cmd0]
  ·rw[restG_n h] at hr hg1
   simp only at hr hg1
   rw[hr] at hg1
   simp [isNameB] at hg1
  ·rw[restG_i h] at hr
   exact absurd hr (itoa_nil _)
  ·rw[restG_7 h] at hr
   simp at hr
  ·rw[restG_11 h] at hr
   simp at hr
  ·rw[restG_12 h] at hr hg1
   simp only[List.append_eq_nil_iff,Bool.and_eq_true] at hr hg1
   rw[hr.1] at hg1
   simp [isNameB] at hg1
  ·obtain⟨r,e⟩:=word_alone (.inr h)
   refine⟨r,?_⟩
   rw[e]
   rcases h with h | h | h<;>simp [normC,h]
 ·rw[if_neg hr] at hl ⊢
  have hl2:(wordN c.kind).length+1+(restG c).1.length<=16384:=by
   rw[List.length_append,List.length_cons] at hl
   omega
  unfold cmdT
  rw[cmd_word w2 hl2,w1]
  rcases (by omega:c.kind=1∨(c.kind=2∨c.kind=14∨c.kind=15)∨c.kind=4∨(c.kind=3∨c.kind=5∨c.kind=6∨c.kind=10∨c.kind=13∨c.kind=8∨c.kind=9∨c.kind=7∨c.kind=11∨c.kind=12)∨(c.kind=16∨c.kind=17∨c.kind=18)) with h | h | h | h | h
  ·rw[restG_1 h] at hr hl2 ⊢
   simp only at hr hl2 ⊢
   have hc:chkC c.rel.name c.rel.cols=0:=by
    by_cases q:chkC c.rel.name c.rel.cols=0
    ·exact q
    ·unfold showC at hr
     rw[if_neg q] at hr
     exact absurd rfl hr
   obtain⟨b1,b2⟩:=show_back hc
   have hp:pS (showC c.rel.name c.rel.cols)=.ok ⟨c.rel.name,c.rel.cols⟩ []:=by
    unfold pS startS
    rw[if_pos b1,refS_ok (lex_ended b1).1,b2]
   rw[if_neg (by simp [b1]),if_neg (by omega),if_pos h,pS_blank (by omega),hp]
   exact⟨_,by simp [mapP,innerP,normC,h];rfl⟩
  ·rw[restG_q h] at hr hl2 ⊢
   simp only at hr hl2 ⊢
   have hc:chkQ c.q=0:=by
    by_cases q:chkQ c.q=0
    ·exact q
    ·unfold showQ at hr
     rw[if_neg q] at hr
     exact absurd rfl hr
   have hq:showQ c.q=qT c.q:=by unfold showQ;rw[if_pos hc]
   obtain⟨b1,b2⟩:=qT_back (chkQ_right hc) hB.range
   rw[<-hq] at b1 b2
   have hp:pQ (showQ c.q)=.ok c.q []:=by
    unfold pQ startS
    rw[if_pos b1,refQ_ok (lex_ended b1).1,b2]
   rw[if_neg (by simp [b1]),if_neg (by omega),if_neg (by omega),if_pos h,pQ_blank (by omega),hp]
   exact⟨_,by rcases h with h | h | h<;>simp [mapP,innerP,normC,h]<;>rfl⟩
  ·rw[restG_4 h] at hr hl2 ⊢
   simp only at hr hl2 ⊢
   have hall:c.b.all goodC=true:=by
    by_cases q:c.b.all goodC=true
    ·exact q
    ·unfold showBt at hr
     rw[if_neg q] at hr
     exact absurd rfl hr
   have hq:showBt c.b=Lib.join (c.b.map chgT) [44,32]:=by unfold showBt;rw[if_pos hall]
   have hgd:∀ x∈c.b,goodC x=true:=fun x hx=>List.all_eq_true.1 hall x hx
   rw[hq] at hl2 ⊢
   have b1:=(batch_lex hgd hB.batch (by omega)).1
   have hp:=parseB_few hgd hB.batch (by omega) (hb h)
   rw[if_neg (by simp [b1]),if_neg (by omega),if_neg (by omega),if_neg (by omega),if_pos h,pB_blank (by omega),hp]
   exact⟨_,by simp [mapP,innerP,normC,h];rfl⟩
  ·obtain⟨ts,r,f1,f2⟩:=fields_back hB hg1 h
   have hlx:=lexR_short (l:=(restG c).1) (by omega)
   unfold LZ at f1
   rw[f1] at hlx
   rw[hlx]
   simp only
   rw[if_neg (by simp),if_neg (by omega),if_neg (by omega),if_neg (by omega),if_neg (by omega),show endC (fieldsP c.kind (ts.map (shT ((wordN c.kind).length+1))))=mapP ((wordN c.kind).length+1) id (endC (fieldsP c.kind ts)) from end_sh _ c.kind ts,f2]
   exact⟨_,rfl⟩
  ·rw[restG_0 h] at hr
   exact absurd rfl hr
end Go.Proofs.YtamjadghncnbcaaGreatDoor
