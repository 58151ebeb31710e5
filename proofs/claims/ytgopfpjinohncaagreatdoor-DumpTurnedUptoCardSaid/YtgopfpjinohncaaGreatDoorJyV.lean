/- What query.Shape and Show tell, plainly; a right query's text is read back. What is read of a query is right, and a fault's place stands in the line: plainly. Batches of changes: what they are in memory; what is told of them, plainly. What change.Parse tells, plainly. What is read of a batch is right; a batch's text is read back: plainly. -/
import Derived.Test.YtgopfpjinohncaaGreatDoorLcV
import Derived.Test.YtgopfpjinohncaaGreatDoorLfV
import Derived.Test.YtgopfpjinohncaaGreatDoorGaV
import Derived.Test.YtgopfpjinohncaaGreatDoorGbV
import Derived.Test.YtgopfpjinohncaaGreatDoorGmV
import Derived.Test.YtgopfpjinohncaaGreatDoorGnV
import Derived.Test.YtgopfpjinohncaaGreatDoorKaV
import Derived.Lib.Join
import Derived.Lib.ItoaLen
namespace Go.Proofs.YtgopfpjinohncaaGreatDoor
open Go.RowKit
set_option linter.unusedVariables false
def badTm (t:Trm):Bool:=if t.x=[] then !validB t.k t.n t.t else decide (t.vl≠⟨0,0,[]⟩)
def badNt (t:Trm):Bool:=decide (t.x≠[]) && !isNameB t.x
def badNa (a:Atm):Bool := !isNameB a.rel || a.ts.any badNt
def badNq (q:Qry):Bool:=(!isNameB q.name || q.head.any fun h => !isNameB h) || q.atoms.any badNa
def wideA (a:Atm):Bool:=decide (5<a.ts.length)
def chkQ (q:Qry):Int :=
 if badNq q=true then 72 else if (q.atoms.any fun a=>a.ts.any badTm)=true then 21 else if q.atoms.length=0∨6<q.atoms.length then 90 else if q.atoms.any wideA=true then 91 else if 0<=dupI q.head then 92 else if 0<=lackI (qVars q.atoms) q.head then 93 else 0
def tmT (t:Trm):List UInt8:=if t.x=[] then showR t.k t.n t.t else t.x
def atT (a:Atm):List UInt8:=a.rel++40::(Lib.join (a.ts.map tmT) [44,32]++[41])
def qT (q:Qry):List UInt8:=q.name++40::(Lib.join (q.head.map id) [44,32]++41::32::58::45::32::Lib.join (q.atoms.map atT) [44,32])
def showQ (q:Qry):List UInt8:=if chkQ q=0 then qT q else []
def RangeQ (q:Qry):Prop:=∀ a∈q.atoms,∀ t∈a.ts,-9223372036854775808<=t.n/\t.n<=9223372036854775807
structure RightQ (q:Qry):Prop where
 name:isNameB q.name=true
 head:∀ h∈q.head,isNameB h=true
 rel:∀ a∈q.atoms,isNameB a.rel=true
 var:∀ a∈q.atoms,∀ t∈a.ts,t.x≠[]->isNameB t.x=true/\t.vl=⟨0,0,[]⟩
 lit:∀ a∈q.atoms,∀ t∈a.ts,t.x=[]->validB t.k t.n t.t=true
 some:q.atoms≠[]
 few:q.atoms.length<=6
 thin:∀ a∈q.atoms,a.ts.length<=5
 dup:¬ 0<=dupI q.head
 lack:¬ 0<=lackI (qVars q.atoms) q.head
theorem chkQ_right {q:Qry} (h:chkQ q=0):RightQ q:=by
 unfold chkQ at h
 split at h
 ·cases h
 rename_i h1
 split at h
 ·cases h
 rename_i h2
 split at h
 ·cases h
 rename_i h3
 split at h
 ·cases h
 rename_i h4
 split at h
 ·cases h
 rename_i h5
 split at h
 ·cases h
 rename_i h6
 have n1:badNq q=false:=by simpa using h1
 unfold badNq at n1
 rw[Bool.or_eq_false_iff,Bool.or_eq_false_iff] at n1
 obtain⟨⟨n2,n3⟩,n4⟩:=n1
 have t1:(q.atoms.any fun a=>a.ts.any badTm)=false:=by simpa using h2
 have w1:q.atoms.any wideA=false:=by simpa using h4
 have hA:∀ a∈q.atoms,isNameB a.rel=true/\∀ t∈a.ts,badNt t=false:=fun a ha=>by
  have:=List.any_eq_false.1 n4 a ha
  have e:badNa a=false:=by simpa using this
  unfold badNa at e
  rw[Bool.or_eq_false_iff] at e
  refine⟨by simpa using e.1,fun t ht=>?_⟩
  have:=List.any_eq_false.1 e.2 t ht
  simpa using this
 have hT:∀ a∈q.atoms,∀ t∈a.ts,badTm t=false:=fun a ha t ht=>by
  have:=List.any_eq_false.1 t1 a ha
  have e:a.ts.any badTm=false:=by simpa using this
  have:=List.any_eq_false.1 e t ht
  simpa using this
 refine⟨by simpa using n2,fun h hh=>?_,fun a ha=>(hA a ha).1,fun a ha t ht hx=>⟨?_,?_⟩,fun a ha t ht hx=>?_,fun e=>h3 (.inl (by rw[e];rfl)),by omega,fun a ha=>?_,h5,h6⟩
 ·have:=List.any_eq_false.1 n3 h hh
  simpa using this
 ·have:=(hA a ha).2 t ht
  unfold badNt at this
  rw[Bool.and_eq_false_iff] at this
  rcases this with e | e
  ·simp at e;exact absurd e hx
  ·simpa using e
 ·have:=hT a ha t ht
  unfold badTm at this
  rw[if_neg hx] at this
  simpa using this
 ·have:=hT a ha t ht
  unfold badTm at this
  rw[if_pos hx] at this
  simpa using this
 ·have:=List.any_eq_false.1 w1 a ha
  unfold wideA at this
  simpa using this
theorem right_chkQ {q:Qry} (h:RightQ q):chkQ q=0:=by
 have hA:∀ a∈q.atoms,badNa a=false:=fun a ha=>by
  unfold badNa
  rw[h.rel a ha]
  simp only[Bool.not_true,Bool.false_or]
  refine List.any_eq_false.2 fun t ht=>?_
  unfold badNt
  by_cases hx:t.x=[]
  ·simp [hx]
  ·rw[(h.var a ha t ht hx).1]
   simp
 have hN:badNq q=false:=by
  unfold badNq
  rw[h.name]
  simp only[Bool.not_true,Bool.false_or,Bool.or_eq_false_iff]
  refine⟨List.any_eq_false.2 fun x hx=>by rw[h.head x hx];decide,List.any_eq_false.2 fun a ha=>by rw[hA a ha];decide⟩
 have hT:(q.atoms.any fun a=>a.ts.any badTm)=false:=List.any_eq_false.2 fun a ha=>by
  have:a.ts.any badTm=false:=List.any_eq_false.2 fun t ht=>by
   unfold badTm
   by_cases hx:t.x=[]
   ·rw[if_pos hx,h.lit a ha t ht hx]
    decide
   ·rw[if_neg hx,(h.var a ha t ht hx).2]
    decide
  rw[this]
  decide
 have hW:q.atoms.any wideA=false:=List.any_eq_false.2 fun a ha=>by
  unfold wideA
  have:=h.thin a ha
  simp
  omega
 have h0:¬ (q.atoms.length=0∨6<q.atoms.length):=by
  rintro (e | e)
  ·exact h.some (List.length_eq_zero_iff.1 e)
  ·have:=h.few
   omega
 unfold chkQ
 rw[if_neg (by rw[hN];decide),if_neg (by rw[hT];decide),if_neg h0,if_neg (by rw[hW];decide),if_neg h.dup,if_neg h.lack]
theorem nodup_len:∀ (l m:List (List UInt8)),l.Nodup->(∀ x∈l,x∈m)->l.length<=m.length
 | [],m,_,_=>Nat.zero_le _
 | x::l,m,hn,hs=>by
   have hx:=hs x List.mem_cons_self
   have h1:=List.nodup_cons.1 hn
   have h2:=nodup_len l (m.erase x) h1.2 (fun y hy=>(List.mem_erase_of_ne (fun (e:y=x)=>h1.1 (by rw[<-e];exact hy))).2 (hs y (List.mem_cons_of_mem _ hy)))
   have h3:=List.length_erase_of_mem hx
   have h4:=List.length_pos_of_mem hx
   rw[List.length_cons]
   omega
theorem dup_nodup:∀ (l seen:List (List UInt8)) (i:Nat),¬ 0<=dupG seen l i->l.Nodup/\∀ x∈l,x ∉ seen
 | [],seen,i,_=>⟨List.nodup_nil,by simp⟩
 | x::l,seen,i,h=>by
   unfold dupG at h
   split at h
   ·exact absurd (Int.natCast_nonneg i) h
   ·rename_i hx
    obtain⟨h1,h2⟩:=dup_nodup l _ _ h
    refine⟨List.nodup_cons.2 ⟨fun hm=>h2 x hm (by simp),h1⟩,fun y hy=>?_⟩
    rcases List.mem_cons.1 hy with rfl | hy
    ·exact hx
    ·exact fun hm=>h2 y hy (by simp [hm])
theorem lack_all {V l:List (List UInt8)} (h:¬ 0<=lackI V l):∀ s∈l,s∈V:=by
 intro s hs
 by_cases hm:s∈V
 ·exact hm
 ·exfalso
  apply h
  unfold lackI idxP
  cases hf:(l.map strC).findIdx? (fun x=>match x with
   | [.string b] => !decide (b.data.toList∈V)
   | _=>false) with
  | none =>
    rw[List.findIdx?_eq_none_iff] at hf
    have:=hf (strC s) (List.mem_map.2 ⟨s,hs,rfl⟩)
    simp [strC,hm] at this
  | some i=>exact Int.natCast_nonneg i
theorem qVars_small (q:Qry):(qVars q.atoms).length<=tsum q.atoms:=by
 have:∀ (al:List Atm) (o:List (List UInt8)),(al.foldl (fun o a=>(atomVars a.ts).foldl addN o) o).length<=o.length+tsum al:=by
  intro al
  induction al with
  | nil=>intro o;simp
  | cons a al ih =>
    intro o
    have h1:=ih ((atomVars a.ts).foldl addN o)
    have h2:=foldl_len addN addN_len o (atomVars a.ts)
    have h3:=atomVars_len a.ts
    simp only[List.foldl_cons,tsum,List.map_cons,List.sum_cons] at h1 ⊢
    omega
 have:=this q.atoms []
 simpa [qVars] using this
theorem tsum_thin:∀ (al:List Atm),(∀ a∈al,a.ts.length<=5)->tsum al<=5 * al.length
 | [],_=>by simp [tsum]
 | a::al,h=>by
   have h1:=tsum_thin al fun b hb=>h b (List.mem_cons_of_mem _ hb)
   have h2:=h a List.mem_cons_self
   simp only[tsum,List.map_cons,List.sum_cons,List.length_cons] at h1 ⊢
   omega
theorem RightQ.heads {q:Qry} (h:RightQ q):q.head.length<=30:=by
 have h1:=nodup_len q.head (qVars q.atoms) (dup_nodup q.head [] 0 h.dup).1 (lack_all h.lack)
 have h2:=qVars_small q
 have h3:=tsum_thin q.atoms h.thin
 have h4:=h.few
 omega
theorem join_len {b:Nat} (l:List (List UInt8)) (h:∀ x∈l,x.length<=b):(Lib.join l [44,32]).length<=(b+2) * l.length:=by
 cases l with
 | nil=>simp [Lib.join_nil]
 | cons x r =>
   have hl:∀ r:List (List UInt8),(∀ x∈r,x.length<=b)->Lib.lens r<=b * r.length:=by
    intro r
    induction r with
    | nil=>intro _;simp [Lib.lens]
    | cons y r ih =>
      intro hr
      have h3:=ih fun z hz=>hr z (List.mem_cons_of_mem _ hz)
      have h4:=hr y List.mem_cons_self
      simp only[Lib.lens,List.map_cons,List.sum_cons,List.length_cons,Nat.mul_succ] at h3 ⊢
      omega
   have h1:=hl r fun z hz=>h z (List.mem_cons_of_mem _ hz)
   have h2:=h x List.mem_cons_self
   rw[Lib.join_cons,List.length_append,Lib.joinTail_length]
   simp only[List.length_cons,List.length_nil,Nat.add_mul,Nat.mul_succ]
   omega
theorem showR_len {k n:Int} {t:List UInt8} (hv:validB k n t=true) (h0 : -9223372036854775808<=n) (h1:n<=9223372036854775807):(showR k n t).length<=258:=by
 unfold showR
 rw[if_pos hv]
 simp only[validB,decide_eq_true_eq] at hv
 rcases hv with ⟨rfl,rfl⟩ | ⟨rfl,rfl,ht⟩
 ·rw[if_pos rfl]
  rcases itoa_cases n with ⟨u,hu,e⟩ | ⟨u,_,hu,e⟩
  ·rw[e,Lib.decDigits_length]
   have:=Lib.nDigits_le20 u (by omega)
   omega
  ·rw[e,List.length_cons,Lib.decDigits_length]
   have:=Lib.nDigits_le20 u (by omega)
   omega
 ·rw[if_neg (by decide)]
  have:=showT_len t
  simp only[List.length_cons,List.length_append,List.length_nil]
  omega
theorem name_len16 {x:List UInt8} (h:isNameB x=true):1<=x.length/\x.length<=16:=by
 unfold isNameB at h
 simp only[decide_eq_true_eq] at h
 exact⟨List.length_pos_iff.2 h.1,h.2.2.2⟩
theorem tmT_len {q:Qry} (h:RightQ q) (hr:RangeQ q):∀ a∈q.atoms,∀ t∈a.ts,(tmT t).length<=258:=fun a ha t ht=>by
 unfold tmT
 by_cases hx:t.x=[]
 ·rw[if_pos hx]
  exact showR_len (h.lit a ha t ht hx) (hr a ha t ht).1 (hr a ha t ht).2
 ·rw[if_neg hx]
  have:=name_len16 (h.var a ha t ht hx).1
  omega
theorem atT_len {q:Qry} (h:RightQ q) (hr:RangeQ q):∀ a∈q.atoms,(Lib.join (a.ts.map tmT) [44,32]).length<=1300/\(atT a).length<=1318:=fun a ha=>by
 have h1:=join_len (b:=258) (a.ts.map tmT) (fun x hx=>by
  obtain⟨t,ht,rfl⟩:=List.mem_map.1 hx
  exact tmT_len h hr a ha t ht)
 have h2:=h.thin a ha
 have h3:=name_len16 (h.rel a ha)
 rw[List.length_map] at h1
 have h4:(Lib.join (a.ts.map tmT) [44,32]).length<=1300:=by omega
 refine⟨h4,?_⟩
 unfold atT
 simp only[List.length_append,List.length_cons,List.length_nil]
 omega
theorem qT_len {q:Qry} (h:RightQ q) (hr:RangeQ q):1<=(qT q).length/\(qT q).length<=16384/\(Lib.join (q.head.map id) [44,32]).length<=540/\(Lib.join (q.atoms.map atT) [44,32]).length<=7920:=by
 have h1:=join_len (b:=1318) (q.atoms.map atT) (fun x hx=>by
  obtain⟨a,ha,rfl⟩:=List.mem_map.1 hx
  exact (atT_len h hr a ha).2)
 have h2:=join_len (b:=16) (q.head.map id) (fun x hx=>by
  obtain⟨a,ha,rfl⟩:=List.mem_map.1 hx
  exact (name_len16 (h.head a ha)).2)
 have h3:=h.heads
 have h4:=h.few
 have h5:=name_len16 h.name
 rw[List.length_map] at h1 h2
 have h6:(Lib.join (q.head.map id) [44,32]).length<=540:=by omega
 have h7:(Lib.join (q.atoms.map atT) [44,32]).length<=7920:=by omega
 unfold qT
 simp only[List.length_append,List.length_cons]
 exact⟨by omega,by omega,h6,h7⟩
def LitOkQ (t:Tok):Prop:=validB t.vk t.vn t.vt=true /\ -9223372036854775808<=t.vn/\t.vn<=9223372036854775807
def TokOkQ (N:Nat) (t:Tok):Prop:=((t.k=1->isNameB t.x=true)/\(t.k=2->LitOkQ t))/\0<=t.p/\t.p<=N
def TInvQ (N:Nat) (c:List Tok):Prop:=(∀ t∈c,TokOkQ N t)/\Ended c
theorem TInvQ.next {N:Nat} {t:Tok} {r:List Tok} (h:TInvQ N (t::r)) (hk:t.k≠0):TInvQ N r:=⟨fun u hu=>h.1 u (List.mem_cons_of_mem _ hu),h.2.cons hk⟩
section
variable {α : Type} {N : Nat}
def SurePQ (N:Nat) (Q:α->Prop):PR α->Prop
 | .bad a e=>0<=a/\a<=N/\e≠0
 | .ok x c=>Q x/\TInvQ N c
def SureQ (N:Nat) (P:List Tok->PR α) (Q:α->Prop):Prop:=∀ c,TInvQ N c->SurePQ N Q (P c)
theorem tk_sureQ (N:Nat) (k:Int) (xs:List (List UInt8)):SureQ N (tk k xs) (fun t=>TokOkQ N t/\t.k=k):=by
 intro c h
 cases c with
 | nil=>exact h.2.elim
 | cons t r =>
   have ht:=h.1 t List.mem_cons_self
   show SurePQ N _ (if t.k=k/\(xs=[]∨t.x∈xs) then .ok t (if k=0 then t::r else r) else .bad t.p 80)
   split
   ·rename_i hc
    refine⟨⟨ht,hc.1⟩,?_⟩
    split
    ·exact h
    ·rename_i hk
     exact h.next (by rw[hc.1];exact hk)
   ·exact⟨ht.2.1,ht.2.2,by decide⟩
theorem more_sureQ {P:List Tok->PR α} {Q:α->Prop} (hP:SureQ N P Q):∀ f,SureQ N (moreP P f) (fun xs=>∀ x∈xs,Q x)
 | 0,c,h=>⟨by simp,h⟩
 | f+1,c,h=>by
   unfold moreP
   split
   ·rename_i him
    have hd:TInvQ N (c.drop 1):=by
     obtain⟨t,r,rfl⟩:=h.2.some
     have hh:t.k=3/\t.x=[44]:=by simpa [isM] using him
     exact h.next (by rw[hh.1];decide)
    have h1:=hP (c.drop 1) hd
    cases ho:P (c.drop 1) with
    | bad a e=>rw[ho] at h1;exact h1
    | ok x c1 =>
      rw[ho] at h1
      have h2:=more_sureQ hP f c1 h1.2
      simp only
      cases hm:moreP P f c1 with
      | bad a e=>rw[hm] at h2;exact h2
      | ok xs c2 =>
        rw[hm] at h2
        refine⟨fun y hy=>?_,h2.2⟩
        rcases List.mem_cons.1 hy with rfl | hy
        ·exact h1.1
        ·exact h2.1 y hy
   ·exact⟨by simp,h⟩
theorem some_sureQ {P:List Tok->PR α} {Q:α->Prop} (hP:SureQ N P Q):SureQ N (someP P) (fun xs=>∀ x∈xs,Q x):=by
 intro c h
 have h1:=hP c h
 unfold someP
 cases ho:P c with
 | bad a e=>rw[ho] at h1;exact h1
 | ok x c1 =>
   rw[ho] at h1
   have h2:=more_sureQ hP c1.length c1 h1.2
   simp only
   cases hm:moreP P c1.length c1 with
   | bad a e=>rw[hm] at h2;exact h2
   | ok xs c2 =>
     rw[hm] at h2
     refine⟨fun y hy=>?_,h2.2⟩
     rcases List.mem_cons.1 hy with rfl | hy
     ·exact h1.1
     ·exact h2.1 y hy
theorem list_sureQ {P:List Tok->PR α} {Q:α->Prop} (hP:SureQ N P Q):SureQ N (listP P) (fun xs=>∀ x∈xs,Q x):=by
 intro c h
 have h1:=tk_sureQ N 3 [[40]] c h
 unfold listP
 cases ho:tk 3 [[40]] c with
 | bad a e=>rw[ho] at h1;exact h1
 | ok t c1 =>
   rw[ho] at h1
   simp only
   have h2:SurePQ N (fun xs=>∀ x∈xs,Q x) (if isM [41] c1=true then (.ok [] c1:PR (List α)) else someP P c1):=by
    split
    ·exact⟨by simp,h1.2⟩
    ·exact some_sureQ hP c1 h1.2
   cases hm:(if isM [41] c1=true then (.ok [] c1:PR (List α)) else someP P c1) with
   | bad a e=>rw[hm] at h2;exact h2
   | ok xs c2 =>
     rw[hm] at h2
     have h3:=tk_sureQ N 3 [[41]] c2 h2.2
     simp only
     cases hk:tk 3 [[41]] c2 with
     | bad a e=>rw[hk] at h3;exact h3
     | ok u c3=>rw[hk] at h3;exact⟨h2.1,h3.2⟩
end
theorem run_nameQ {r:List UInt8} (hl:letB (bt r 0)=true) (hr:r≠[]) (h16:nameRun r<=16):isNameB (r.take (nameRun r))=true:=by
 have hp:=nameRun_pos hr hl
 have hle:=nameRun_le r
 have e:r.take (nameRun r)=r.takeWhile fun c=>letB c.toNat || digB c.toNat:=by
  have h1:=List.takeWhile_prefix (fun c:UInt8=>letB c.toNat || digB c.toNat) (l:=r)
  exact (List.prefix_iff_eq_take.1 h1).symm
 have hall:∀ c∈r.take (nameRun r),(letB c.toNat || digB c.toNat)=true:=by
  intro c hc
  rw[e] at hc
  exact List.all_eq_true.1 (List.all_takeWhile (p:=fun c:UInt8=>letB c.toNat || digB c.toNat) (l:=r)) c hc
 have hlen:(r.take (nameRun r)).length=nameRun r:=by rw[List.length_take];omega
 have hrun:nameRun (r.take (nameRun r))=(r.take (nameRun r)).length:=by
  have:=List.takeWhile_append_of_pos (p:=fun c:UInt8=>letB c.toNat || digB c.toNat) (l₁:=r.take (nameRun r)) (l₂:=[]) (by simpa using hall)
  rw[List.append_nil] at this
  show (List.takeWhile _ (r.take (nameRun r))).length=_
  rw[this]
  simp
 unfold isNameB
 simp only[decide_eq_true_eq]
 refine⟨?_,?_,hrun,by omega⟩
 ·intro e2
  rw[e2] at hlen
  simp at hlen
  omega
 ·have:=bt_take_app (l:=r) (y:=[]) (n:=nameRun r) (j:=0) (by omega) hle
  rw[List.append_nil] at this
  rw[this]
  exact hl
theorem one_litQ {r:List UInt8} {p:Int}:(oneS r p).2=0->(oneS r p).1.k=2->LitOkQ (oneS r p).1:=by
 have hs:=scan_good r
 unfold oneS litS
 repeat' split
 all_goals
  intro h g
  first
  | (simp at h;done)
  | (simp at g;done)
  | contradiction
  | (rename_i he;exact⟨(hs he).1,(hs he).2.1.1,(hs he).2.1.2⟩)
theorem LX_toksQ:∀ (m:Nat) (r:List UInt8) (p:Nat),r.length<=m->(LX r p).e=0->∀ t∈(LX r p).ts,((t.k=1->isNameB t.x=true)/\(t.k=2->LitOkQ t))/\(p:Int)<=t.p/\t.p<=((p+r.length:Nat):Int):=by
 intro m
 have hend:∀ (r:List UInt8) (p:Nat),r=[]∨bt r 0=35->∀ t∈(LX r p).ts,((t.k=1->isNameB t.x=true)/\(t.k=2->LitOkQ t))/\(p:Int)<=t.p/\t.p<=((p+r.length:Nat):Int):=by
  intro r p h t ht
  rw[LX_end h] at ht
  simp only[List.mem_singleton] at ht
  subst ht
  exact⟨⟨fun h=>by simp [endTok] at h,fun h=>by simp [endTok] at h⟩,by simp only[endTok];omega,by simp [endTok]⟩
 induction m with
 | zero =>
   intro r p h _
   exact hend r p (.inl (List.length_eq_zero_iff.1 (by omega)))
 | succ m ih =>
   intro r p h
   by_cases h0:r=[]∨bt r 0=35
   ·exact fun _=>hend r p h0
   ·have hr:r≠[]:=fun e=>h0 (.inl e)
    have hl:=List.length_pos_iff.2 hr
    by_cases hb:spB (bt r 0)=true
    ·rw[LX_blank h0 hb]
     intro he t ht
     have:=ih _ _ (by rw[List.length_drop];omega) he t ht
     rw[List.length_drop] at this
     exact⟨this.1,by omega,by omega⟩
    ·have hb':spB (bt r 0)=false:=by simpa using hb
     by_cases he:(oneS r p).2=0
     ·obtain⟨l1,_,l3⟩:=one_len he hr
      obtain⟨_,k2⟩:=one_kind he
      rw[LX_one h0 hb' he]
      split
      ·rename_i h9
       intro h8
       exact absurd h8 h9
      ·rename_i h9
       intro _ t ht
       simp only[List.mem_cons] at ht
       rcases ht with rfl | ht
       ·refine⟨⟨fun hk=>?_,fun hk=>one_litQ he hk⟩,by rw[k2];exact Int.le_refl _,by rw[k2];omega⟩
        obtain⟨a1,a2,a3⟩:=one_name he hk
        rw[a3]
        exact run_nameQ a1 hr a2
       ·have:=ih (r.drop (oneS r p).1.x.length) (p+(oneS r p).1.x.length) (by rw[List.length_drop];omega) (by simpa using h9) t ht
        rw[List.length_drop] at this
        exact⟨this.1,by omega,by omega⟩
     ·rw[LX_bad h0 hb' he]
      exact fun h=>absurd h he
theorem lex_toksQ {l:List UInt8} (h:(lexR l).e=0) (he:Ended (lexR l).ts):TInvQ l.length (lexR l).ts:=by
 by_cases hl:16384<l.length
 ·rw[lexR_long hl] at h
  exact absurd h (by decide)
 ·rw[lexR_short (by omega)] at h ⊢
  rw[lexR_short (by omega)] at he
  refine⟨fun t ht=>?_,he⟩
  have:=LX_toksQ _ l 0 (Nat.le_refl _) h t ht
  exact⟨this.1,by have:=this.2.1;omega,by have:=this.2.2;omega⟩
theorem lex_placeQ (l:List UInt8) (h:(lexR l).e≠0):0<=(lexR l).at_/\(lexR l).at_<=l.length:=by
 by_cases hl:16384<l.length
 ·rw[lexR_long hl]
  exact⟨by simp,by simp⟩
 ·rw[lexR_short (by omega)] at h ⊢
  obtain⟨n,ts,h1,h2,_⟩:=LX_fault _ l 0 (Nat.le_refl _) h
  rw[h1]
  exact⟨by omega,by omega⟩
structure Chg where
 add:Bool
 rel:List UInt8
 row:List Vl
deriving DecidableEq
def ChgC (w:World) (cells:List Value) (c:Chg):Prop:=∃ rv,cells=[.bool c.add,.string ⟨c.rel.toArray⟩,rv]/\RowAt w rv 3 (c.row.map Vl.cells)/\c.row.length<=4398046511104
def ChgsAt (w:World) (v:Value) (l:List Chg):Prop:=∃ rows,RowAt w v 3 rows/\All2 (ChgC w) rows l
theorem ChgC.keep {w w':World} {row:List Value} {a:Chg} (h:ChgC w row a) (hb:Below w.heap.size w w'):ChgC w' row a:=by
 obtain⟨rv,rfl,h2,h3⟩:=h
 exact⟨rv,rfl,h2.keep hb,h3⟩
theorem ChgsAt.keep {w w':World} {v:Value} {l:List Chg} (h:ChgsAt w v l) (hb:Below w.heap.size w w'):ChgsAt w' v l:=by
 obtain⟨rows,h1,h2⟩:=h
 exact⟨rows,h1.keep hb,h2.mono fun b a hh=>hh.keep hb⟩
theorem ChgsAt.form {w:World} {v:Value} {l:List Chg} (h:ChgsAt w v l):∃ (ad:Option Addr) (cap:Nat),v=.slice ad l.length cap/\l.length<=cap/\cap<=maxLen:=by
 obtain⟨rows,h1,h2⟩:=h
 obtain⟨ad,cap,hv,h3,h4⟩:=h1.form
 rw[h2.length] at hv h3
 exact⟨ad,cap,hv,h3,h4⟩
theorem ChgsAt.get {w:World} {v:Value} {l:List Chg} (h:ChgsAt w v l) {i:Nat} {a:Chg} (hi:l[i]? = some a):∃ (b off cap:Nat) (rv:Value),v=.slice (some ⟨b,off,none⟩) l.length cap/\l.length<=cap/\cap<=maxLen/\b<w.heap.size /\
 w.cell? ⟨b,off+i * 3,none⟩=some (.bool a.add)/\w.cell? ⟨b,off+i * 3+1,none⟩=some (.string ⟨a.rel.toArray⟩)/\w.cell? ⟨b,off+i * 3+2,none⟩=some rv/\RowAt w rv 3 (a.row.map Vl.cells)/\a.row.length<=4398046511104:=by
 obtain⟨rows,h1,h2⟩:=h
 obtain⟨row,hr,rv,rfl,h3,h4⟩:=h2.get hi
 obtain⟨b,off,cap,hv,h5,h6,h7,h8⟩:=h1.get hr
 rw[h2.length] at hv h5
 exact⟨b,off,cap,rv,hv,h5,h6,h7,h8 0 _ rfl,h8 1 _ rfl,h8 2 _ rfl,h3,h4⟩
theorem ChgsAt.len {w:World} {v:Value} {l:List Chg} (h:ChgsAt w v l):l.length<=8796093022208:=by
 obtain⟨rows,h1,h2⟩:=h
 rw[<-h2.length]
 exact h1.len
def ChgO (B:Nat) (w:World) (row:List Value) (c:Chg):Prop:=∃ rv,row=[.bool c.add,.string ⟨c.rel.toArray⟩,rv]/\w.ownsRow B 111 3 rv c.row.length (c.row.map Vl.cells).flatten
def ChgsOwn (B:Nat) (w:World) (v:Value) (l:List Chg):Prop :=
 ∃ rows:List (List Value),w.ownsRow B 68 3 v l.length rows.flatten/\All2 (ChgO B w) rows l
theorem ChgO.mt {B B':Nat} {w w':World} {row:List Value} {a:Chg} {Ts:List TypeId} (h:ChgO B w row a) (hm:MT B' Ts w w') (ht:111 ∉ Ts):ChgO B w' row a:=by
 obtain⟨rv,rfl,h2⟩:=h
 exact⟨rv,rfl,hm.ownsRow h2 ht⟩
theorem ChgO.low {B B':Nat} {w:World} {row:List Value} {a:Chg} (h:ChgO B w row a) (hb:B'<=B):ChgO B' w row a:=by
 obtain⟨rv,rfl,h2⟩:=h
 exact⟨rv,rfl,World.ownsRow.low h2 hb⟩
theorem ChgsOwn.low {B B':Nat} {w:World} {v:Value} {l:List Chg} (h:ChgsOwn B w v l) (hb:B'<=B):ChgsOwn B' w v l:=by
 obtain⟨rows,h1,h2⟩:=h
 exact⟨rows,World.ownsRow.low h1 hb,h2.mono fun b x hh=>hh.low hb⟩
theorem ChgsOwn.mt {B B':Nat} {w w':World} {v:Value} {l:List Chg} {Ts:List TypeId} (h:ChgsOwn B w v l) (hm:MT B' Ts w w') (h1:68 ∉ Ts) (h2:111 ∉ Ts):ChgsOwn B w' v l:=by
 obtain⟨rows,h3,h4⟩:=h
 exact⟨rows,hm.ownsRow h3 h1,h4.mono fun b x hh=>hh.mt hm h2⟩
def badV (u:Vl):Bool := !validB u.k u.n u.t
def rowB (l:List Vl):Bool:=decide (l.length<=30) && !l.any badV
def showV (u:Vl):List UInt8:=showR u.k u.n u.t
def rowT0 (l:List Vl):List UInt8:=40::(Lib.join (l.map showV) [44,32]++[41])
def showRow (l:List Vl):List UInt8:=if rowB l=true then rowT0 l else []
def goodC (c:Chg):Bool:=isNameB c.rel && rowB c.row
def chgT (c:Chg):List UInt8:=(if c.add=true then 43 else 45)::(c.rel++rowT0 c.row)
def showBt (b:List Chg):List UInt8:=if b.all goodC=true then Lib.join (b.map chgT) [44,32] else []
def RangeV (u:Vl):Prop := -9223372036854775808<=u.n/\u.n<=9223372036854775807
def RangeB (b:List Chg):Prop:=∀ c∈b,∀ u∈c.row,RangeV u
theorem rowB_all {l:List Vl} (h:rowB l=true):l.length<=30/\∀ u∈l,validB u.k u.n u.t=true:=by
 unfold rowB at h
 rw[Bool.and_eq_true,decide_eq_true_eq] at h
 refine⟨h.1,fun u hu=>?_⟩
 have h2:l.any badV=false:=by simpa using h.2
 have:=List.any_eq_false.1 h2 u hu
 unfold badV at this
 simpa using this
theorem showV_len {l:List Vl} (h:rowB l=true) (hr:∀ u∈l,RangeV u):∀ u∈l,(showV u).length<=258:=fun u hu=>showR_len ((rowB_all h).2 u hu) (hr u hu).1 (hr u hu).2
theorem rowT_size {l:List Vl} (h:rowB l=true) (hr:∀ u∈l,RangeV u):(Lib.join (l.map showV) [44,32]).length<=7800/\(rowT0 l).length<=7802:=by
 have h1:=join_len (b:=258) (l.map showV) (fun x hx=>by
  obtain⟨u,hu,rfl⟩:=List.mem_map.1 hx
  exact showV_len h hr u hu)
 have h2:=(rowB_all h).1
 rw[List.length_map] at h1
 have h3:(Lib.join (l.map showV) [44,32]).length<=7800:=by omega
 refine⟨h3,?_⟩
 unfold rowT0
 simp only[List.length_cons,List.length_append,List.length_nil]
 omega
abbrev ChP:=Chg × Int
def litP (c:List Tok):PR Vl:=match tk 2 [] c with
 | .bad a e=>.bad a e
 | .ok t c1=>.ok ⟨t.vk,t.vn,t.vt⟩ c1
abbrev sgnX:List (List UInt8):=[[43],[45]]
def chgOf (s t:Tok) (l:List Vl):ChP:=(⟨decide (s.x=[43]),t.x,l⟩,s.p)
def chgP (c:List Tok):PR ChP:=match tk 3 sgnX c with
 | .bad a e=>.bad a e
 | .ok s c1=>match tk 1 [] c1 with
   | .bad a e=>.bad a e
   | .ok t c2=>match listP litP c2 with
     | .bad a e=>.bad a e
     | .ok l c3=>.ok (chgOf s t l) c3
theorem lit_bad {c:List Tok} {a e:Int} (h:tk 2 [] c=.bad a e):litP c=.bad a e:=by
 unfold litP
 rw[h]
theorem lit_ok {c c1:List Tok} {t:Tok} (h:tk 2 [] c=.ok t c1):litP c=.ok ⟨t.vk,t.vn,t.vt⟩ c1:=by
 unfold litP
 rw[h]
theorem chg_bad1 {c:List Tok} {a e:Int} (h:tk 3 sgnX c=.bad a e):chgP c=.bad a e:=by
 unfold chgP
 rw[h]
theorem chg_bad2 {c c1:List Tok} {s:Tok} {a e:Int} (h:tk 3 sgnX c=.ok s c1) (h2:tk 1 [] c1=.bad a e):chgP c=.bad a e:=by
 unfold chgP
 rw[h]
 simp only[h2]
theorem chg_bad3 {c c1 c2:List Tok} {s t:Tok} {a e:Int} (h:tk 3 sgnX c=.ok s c1) (h2:tk 1 [] c1=.ok t c2) (h3:listP litP c2=.bad a e):chgP c=.bad a e:=by
 unfold chgP
 rw[h]
 simp only[h2,h3]
theorem chg_ok {c c1 c2 c3:List Tok} {s t:Tok} {l:List Vl} (h:tk 3 sgnX c=.ok s c1) (h2:tk 1 [] c1=.ok t c2) (h3:listP litP c2=.ok l c3):chgP c=.ok (chgOf s t l) c3:=by
 unfold chgP
 rw[h]
 simp only[h2,h3]
theorem lit_less:Less litP:=by
 intro ts x ts' h
 cases h1:tk 2 [] ts with
 | bad a e=>rw[lit_bad h1] at h;cases h
 | ok t c1 =>
   rw[lit_ok h1] at h
   have h2:=tk_less _ _ _ _ _ h1
   simp only[PR.ok.injEq] at h
   rw[<-h.2]
   exact h2
theorem chg_less:Less chgP:=by
 intro ts x ts' h
 cases h1:tk 3 sgnX ts with
 | bad a e=>rw[chg_bad1 h1] at h;cases h
 | ok s c1 =>
   have g1:=tk_less _ _ _ _ _ h1
   cases h2:tk 1 [] c1 with
   | bad a e=>rw[chg_bad2 h1 h2] at h;cases h
   | ok t c2 =>
     have g2:=tk_less _ _ _ _ _ h2
     cases h3:listP litP c2 with
     | bad a e=>rw[chg_bad3 h1 h2 h3] at h;cases h
     | ok l c3 =>
       have g3:=list_less lit_less _ _ _ h3
       rw[chg_ok h1 h2 h3] at h
       simp only[PR.ok.injEq] at h
       rw[<-h.2]
       omega
def endT:List Tok->Bool
 | []=>true
 | t::_=>decide (t.k=0)
def overP (l:List ChP):Int:=match l[256]? with
 | some z=>z.2
 | none => -1
def chkB (l:List ChP):PR (List Chg):=if 0<=overP l then .bad (overP l) 100 else .ok (l.map (·.1)) []
def chgsP (c:List Tok):PR (List ChP):=if endT c=true then .ok [] c else someP chgP c
def batchT (c:List Tok):PR (List Chg):=match chgsP c with
 | .bad a e=>.bad a e
 | .ok l c1=>match tk 0 [] c1 with
   | .bad a e=>.bad a e
   | .ok _ _=>chkB l
theorem batchT_bad1 {c:List Tok} {a e:Int} (h:chgsP c=.bad a e):batchT c=.bad a e:=by
 unfold batchT
 rw[h]
theorem batchT_bad2 {c c1:List Tok} {l:List ChP} {a e:Int} (h:chgsP c=.ok l c1) (h2:tk 0 [] c1=.bad a e):batchT c=.bad a e:=by
 unfold batchT
 rw[h]
 simp only[h2]
theorem batchT_ok {c c1 c2:List Tok} {l:List ChP} {u:Tok} (h:chgsP c=.ok l c1) (h2:tk 0 [] c1=.ok u c2):batchT c=chkB l:=by
 unfold batchT
 rw[h]
 simp only[h2]
theorem overB_snoc (l:List ChP) (z:ChP):overP (l++[z])=if l.length=256 then z.2 else overP l:=by
 unfold overP
 by_cases h:l.length=256
 ·rw[if_pos h,List.getElem?_append_right (by omega),h]
  rfl
 ·rw[if_neg h]
  by_cases h2:256<l.length
  ·rw[List.getElem?_append_left h2]
  ·rw[List.getElem?_eq_none (by simp;omega),List.getElem?_eq_none (by omega)]
theorem overB_few {l:List ChP} (h:l.length<=256):overP l = -1:=by
 unfold overP
 rw[List.getElem?_eq_none h]
def ChgR (N:Nat) (z:ChP):Prop:=isNameB z.1.rel=true/\(∀ u∈z.1.row,validB u.k u.n u.t=true/\RangeV u)/\0<=z.2/\z.2<=N
theorem lit_sure (N:Nat):SureQ N litP (fun u=>validB u.k u.n u.t=true/\RangeV u):=by
 intro c h
 have h1:=tk_sureQ N 2 [] c h
 cases ho:tk 2 [] c with
 | bad a e=>rw[ho] at h1;rw[lit_bad ho];exact h1
 | ok t c1 =>
   rw[ho] at h1
   rw[lit_ok ho]
   have hl:=h1.1.1.1.2 h1.1.2
   exact⟨⟨hl.1,hl.2⟩,h1.2⟩
theorem chg_sure (N:Nat):SureQ N chgP (ChgR N):=by
 intro c h
 have h1:=tk_sureQ N 3 sgnX c h
 cases ho:tk 3 sgnX c with
 | bad a e=>rw[ho] at h1;rw[chg_bad1 ho];exact h1
 | ok s c1 =>
   rw[ho] at h1
   have h2:=tk_sureQ N 1 [] c1 h1.2
   cases hn:tk 1 [] c1 with
   | bad a e=>rw[hn] at h2;rw[chg_bad2 ho hn];exact h2
   | ok t c2 =>
     rw[hn] at h2
     have h3:=list_sureQ (lit_sure N) c2 h2.2
     cases hl:listP litP c2 with
     | bad a e=>rw[hl] at h3;rw[chg_bad3 ho hn hl];exact h3
     | ok l c3 =>
       rw[hl] at h3
       rw[chg_ok ho hn hl]
       exact⟨⟨h2.1.1.1.1 h2.1.2,h3.1,h1.1.1.2⟩,h3.2⟩
theorem chgs_sure (N:Nat):SureQ N chgsP (fun l=>∀ z∈l,ChgR N z):=by
 intro c h
 unfold chgsP
 split
 ·exact⟨by simp,h⟩
 ·exact some_sureQ (chg_sure N) c h
theorem overB_range {N:Nat} {l:List ChP} (h:∀ z∈l,ChgR N z) (hl:256<l.length):0<=overP l/\overP l<=N:=by
 unfold overP
 obtain⟨z,hz⟩:∃ z,l[256]? = some z:=⟨_,List.getElem?_eq_getElem hl⟩
 rw[hz]
 exact⟨(h z (List.mem_of_getElem? hz)).2.2.1,(h z (List.mem_of_getElem? hz)).2.2.2⟩
theorem chkB_few {l:List ChP} (h:l.length<=256):chkB l=.ok (l.map (·.1)) []:=by
 unfold chkB
 rw[overB_few h]
 rfl
theorem chkB_many {N:Nat} {l:List ChP} (h:∀ z∈l,ChgR N z) (hl:256<l.length):chkB l=.bad (overP l) 100:=by
 unfold chkB
 rw[if_pos (overB_range h hl).1]
theorem batchT_sure {N:Nat} {ts:List Tok} (h:TInvQ N ts):match batchT ts with
 | .bad a e=>0<=a/\a<=N/\e≠0
 | .ok b _=>b.length<=256/\∀ c∈b,isNameB c.rel=true/\∀ u∈c.row,validB u.k u.n u.t=true/\RangeV u:=by
 have h1:=chgs_sure N ts h
 cases hc:chgsP ts with
 | bad a e=>rw[hc] at h1;rw[batchT_bad1 hc];exact h1
 | ok l c1 =>
   rw[hc] at h1
   have h2:=tk_sureQ N 0 [] c1 h1.2
   cases ht:tk 0 [] c1 with
   | bad a e=>rw[ht] at h2;rw[batchT_bad2 hc ht];exact h2
   | ok u c2 =>
     rw[batchT_ok hc ht]
     by_cases hl:256<l.length
     ·rw[chkB_many h1.1 hl]
      have:=overB_range h1.1 hl
      exact⟨this.1,this.2,by decide⟩
     ·rw[chkB_few (by omega)]
      refine⟨by rw[List.length_map];omega,fun c hcm=>?_⟩
      obtain⟨z,hz,rfl⟩:=List.mem_map.1 hcm
      have:=h1.1 z hz
      exact⟨this.1,this.2.1⟩
end Go.Proofs.YtgopfpjinohncaaGreatDoor
