/- What is read as a query is small. What is read as a command is small. -/
import Derived.Test.YtamjadghncnbcaaGreatDoorGfW
import Derived.Test.YtamjadghncnbcaaGreatDoorDoW
import Derived.Test.YtamjadghncnbcaaGreatDoorDwW
import Derived.Test.YtamjadghncnbcaaGreatDoorDcW
namespace Go.Proofs.YtamjadghncnbcaaGreatDoor
open Go.RowKit
set_option linter.unusedVariables false
theorem queryT_small {ts c:List Tok} {q:Qry} (h:queryT ts=.ok q c):q.head.length<=ts.length+1/\q.atoms.length<=6/\∀ a∈q.atoms,a.ts.length<=5:=by
 unfold queryT at h
 cases h1:nameP ts with
 | bad a e=>rw[h1] at h;cases h
 | ok n c1 =>
   rw[h1] at h
   simp only at h
   cases h2:listP nameP c1 with
   | bad a e=>rw[h2] at h;cases h
   | ok hs c2 =>
     rw[h2] at h
     simp only at h
     cases h3:tk 3 [[58,45]] c2 with
     | bad a e=>rw[h3] at h;cases h
     | ok u c3 =>
       rw[h3] at h
       simp only at h
       cases h4:someP atomP c3 with
       | bad a e=>rw[h4] at h;cases h
       | ok l c4 =>
         rw[h4] at h
         simp only at h
         cases h5:tk 0 [] c4 with
         | bad a e=>rw[h5] at h;cases h
         | ok v c5 =>
           rw[h5] at h
           simp only[chkP] at h
           cases h6:limP l with
           | some x=>rw[h6] at h;cases h
           | none =>
             rw[h6] at h
             simp only at h
             have hq:qryOf n hs l=q:=by
              generalize hs[(dupI (hs.map (·.1))).toNat]? = A at h
              generalize decide (0<=dupI (hs.map (·.1)))=B at h
              generalize hs[(lackI (qVars (qryOf n hs l).atoms) (hs.map (·.1))).toNat]? = C at h
              generalize decide (0<=lackI (qVars (qryOf n hs l).atoms) (hs.map (·.1)))=D at h
              rcases A with _ | x<;>rcases B with _ | _<;>rcases C with _ | y<;>rcases D with _ | _<;>simp only[PR.ok.injEq,reduceCtorEq] at h<;>exact h.1
             subst hq
             obtain⟨k1,k2⟩:=lim_small h6
             have k3:=list_len name_less h2
             have k4:=name_less _ _ _ h1
             refine⟨by simp only[qryOf,List.length_map];omega,by simp only[qryOf,List.length_map];exact k1,?_⟩
             intro a ha
             rw[qryOf_atoms] at ha
             obtain⟨z,hz,rfl⟩:=List.mem_map.1 ha
             have:=k2 z hz
             simpa [convA] using this
theorem refQ_small {l:List UInt8} {q:Qry} {c:List Tok} (h:refQ (startS (lexR l))=.ok q c):q.head.length<=200000/\q.atoms.length<=6/\∀ a∈q.atoms,a.ts.length<=5:=by
 unfold startS at h
 by_cases he:(lexR l).e=0
 ·rw[if_pos he,refQ_ok (lex_ended he).1] at h
  have h1:=queryT_small h
  have h2:=(lex_ended he).2
  exact⟨by omega,h1.2⟩
 ·rw[if_neg he,refQ_bad] at h
  cases h
theorem endC_small {p:PR Cmd} {x:Cmd} {c:List Tok} (h:endC p=.ok x c):∃ c1,p=.ok x c1:=by
 unfold endC bindP at h
 cases p with
 | bad a e=>cases h
 | ok y c1 =>
   simp only at h
   cases hk:tk 0 [] c1 with
   | bad a e=>rw[hk] at h;cases h
   | ok u c2 =>
     rw[hk] at h
     simp only[PR.ok.injEq] at h
     exact⟨c1,by rw[h.1]⟩
theorem small0:SmallC cmd0:=⟨Nat.zero_le _,Nat.zero_le _,Nat.zero_le _,(fun a h=>by cases h),Nat.zero_le _,(fun a h=>by cases h),Nat.zero_le _⟩
theorem fields_small {K:Int} {c r:List Tok} {x:Cmd} (h:fieldsP K c=.ok x r) (hc:c.length<=100000):SmallC x:=by
 have hz:∀ (k id n:Int) (nm:List UInt8),SmallC { cmd0 with kind:=k,id:=id,n:=n,nm:=nm }:=fun _ _ _ _=>⟨small0.1,small0.2,small0.3,small0.4,small0.5,small0.6,small0.7⟩
 unfold fieldsP bindP at h
 split at h
 ·cases h1:nmP1 c with
  | bad a e=>rw[h1] at h;cases h
  | ok y c1=>rw[h1] at h;simp only[PR.ok.injEq] at h;rw[<-h.1];exact hz _ _ _ _
 ·split at h
  ·cases h1:numP c with
   | bad a e=>rw[h1] at h;cases h
   | ok y c1=>rw[h1] at h;simp only[PR.ok.injEq] at h;rw[<-h.1];exact hz _ _ _ _
  ·split at h
   ·cases h1:numP c with
    | bad a e=>rw[h1] at h;cases h
    | ok y c1 =>
      rw[h1] at h
      simp only at h
      cases h2:numP c1 with
      | bad a e=>rw[h2] at h;cases h
      | ok z c2=>rw[h2] at h;simp only[PR.ok.injEq] at h;rw[<-h.1];exact hz _ _ _ _
   ·split at h
    ·cases h1:nmP1 c with
     | bad a e=>rw[h1] at h;cases h
     | ok y c1 =>
       rw[h1] at h
       simp only at h
       cases h2:numP c1 with
       | bad a e=>rw[h2] at h;cases h
       | ok z c2=>rw[h2] at h;simp only[PR.ok.injEq] at h;rw[<-h.1];exact hz _ _ _ _
    ·split at h
     ·cases h1:nmP1 c with
      | bad a e=>rw[h1] at h;cases h
      | ok y c1 =>
        rw[h1] at h
        simp only at h
        cases h2:listP litP c1 with
        | bad a e=>rw[h2] at h;cases h
        | ok z c2 =>
          rw[h2] at h
          simp only[PR.ok.injEq] at h
          rw[<-h.1]
          have hl:=list_len lit_less h2
          have hl1:c1.length<=c.length:=by
           unfold nmP1 at h1
           cases ht:tk 1 [] c with
           | bad a e=>rw[ht] at h1;cases h1
           | ok t c' =>
             rw[ht] at h1
             simp only[PR.ok.injEq] at h1
             have:=tk_less 1 [] _ _ _ ht
             rw[<-h1.2]
             omega
          exact⟨small0.1,small0.2,small0.3,small0.4,small0.5,small0.6,by show z.length<=_;omega⟩
     ·simp only[PR.ok.injEq] at h
      rw[<-h.1]
      exact hz _ _ _ _
theorem cmdT_small {l:List UInt8} {x:Cmd} {r:List Tok} (h:cmdT l=.ok x r):SmallC x:=by
 unfold cmdT parseC at h
 split at h
 ·cases h
 ·rename_i he
  have he0:(lexR l).e=0:=by simpa using he
  have hlen:=(lex_ended he0).2
  split at h
  ·cases h
  ·rename_i t c hts
   rw[hts] at hlen
   simp only[List.length_cons] at hlen
   split at h
   ·cases h
   ·split at h
    ·unfold innerP at h
     split at h
     ·rename_i a e hp
      split at h
      ·simp only[PR.ok.injEq] at h
       rw[<-h.1]
       exact⟨Nat.zero_le _,small0.2,small0.3,small0.4,small0.5,small0.6,small0.7⟩
      ·cases h
     ·rename_i y c' hp
      simp only[PR.ok.injEq] at h
      rw[<-h.1]
      exact⟨refS_small hp,small0.2,small0.3,small0.4,small0.5,small0.6,small0.7⟩
    ·split at h
     ·unfold innerP at h
      split at h
      ·split at h
       ·simp only[PR.ok.injEq] at h
        rw[<-h.1]
        exact⟨small0.1,Nat.zero_le _,Nat.zero_le _,(fun a h=>by cases h),small0.5,small0.6,small0.7⟩
       ·cases h
      ·rename_i y c' hp
       simp only[PR.ok.injEq] at h
       rw[<-h.1]
       have:=refQ_small hp
       exact⟨small0.1,this.1,this.2.1,this.2.2,small0.5,small0.6,small0.7⟩
     ·split at h
      ·unfold innerP at h
       split at h
       ·split at h
        ·simp only[PR.ok.injEq] at h
         rw[<-h.1]
         exact⟨small0.1,small0.2,small0.3,small0.4,Nat.zero_le _,(fun a h=>by cases h),small0.7⟩
        ·cases h
       ·rename_i y c' hp
        simp only[PR.ok.injEq] at h
        rw[<-h.1]
        have hb:=parseB_sure (l.drop (t.p.toNat+t.x.length))
        rw[hp] at hb
        exact⟨small0.1,small0.2,small0.3,small0.4,hb.1,parseB_rows hp,small0.7⟩
      ·obtain⟨c1,hf⟩:=endC_small h
       exact fields_small hf (by omega)
end Go.Proofs.YtamjadghncnbcaaGreatDoor
