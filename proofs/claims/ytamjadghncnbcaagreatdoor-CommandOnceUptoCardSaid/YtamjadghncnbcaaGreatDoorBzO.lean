/- What is read as a command is right, and reads back as itself; plainly. What the reach, and a bounded bulk, promise of a command's text. CommandBack, walked (printed by mkbk9.py). CommandOnce, walked (printed by mkon9.py). -/
import Derived.Test.YtamjadghncnbcaaGreatDoorBkO
import Derived.Test.YtamjadghncnbcaaGreatDoorDcO
import Derived.Test.YtamjadghncnbcaaGreatDoorCtaZO
import Derived.Test.YtamjadghncnbcaaGreatDoorTpO
import Derived.Test.YtamjadghncnbcaaGreatDoorBbO
import Derived.Test.YtamjadghncnbcaaGreatDoorCtxZO
import Derived.Test.YtamjadghncnbcaaGreatDoorTsO
import Derived.Test.YtamjadghncnbcaaGreatDoorDdO
import Derived.Test.YtamjadghncnbcaaGreatDoorDxO
namespace Go.Proofs.YtamjadghncnbcaaGreatDoor
open Go.RowKit
set_option linter.unusedVariables false
structure SureC (c:Cmd):Prop where
 k1:1<=c.kind
 k2:c.kind<=18
 norm:normC c=c
 rel:c.kind=1->chkC c.rel.name c.rel.cols=0
 q:c.kind=2∨c.kind=14∨c.kind=15->RightQ c.q
 range:RangeQ c.q
 nb:c.b.length<=256
 b:∀ x∈c.b,isNameB x.rel=true/\∀ u∈x.row,validB u.k u.n u.t=true/\RangeV u
 nm:c.kind=3∨c.kind=5∨c.kind=6∨c.kind=10∨c.kind=13∨c.kind=11∨c.kind=12->isNameB c.nm=true
 id : -9223372036854775808<=c.id/\c.id<=9223372036854775807
 n : -9223372036854775808<=c.n/\c.n<=9223372036854775807
 row:∀ u∈c.row,validB u.k u.n u.t=true/\RangeV u
theorem num_sureQ (N:Nat):SureQ N numP (fun i => -9223372036854775808<=i/\i<=9223372036854775807):=by
 intro c h
 cases c with
 | nil=>exact h.2.elim
 | cons t r =>
   have ht:=h.1 t List.mem_cons_self
   show SurePQ N _ (if t.k=2/\t.vk=1 then (match tk 2 [] (t::r) with | .bad a e=>.bad a e | .ok u c=>.ok u.vn c) else .bad t.p 80)
   split
   ·have h1:=tk_sureQ N 2 [] (t::r) h
    cases ho:tk 2 [] (t::r) with
    | bad a e=>rw[ho] at h1;exact h1
    | ok u c1 =>
      rw[ho] at h1
      have hl:=h1.1.1.1.2 h1.1.2
      exact⟨hl.2,h1.2⟩
   ·exact⟨ht.2.1,ht.2.2,by decide⟩
theorem nm1_sureQ (N:Nat):SureQ N nmP1 (fun x=>isNameB x=true):=by
 intro c h
 have h1:=tk_sureQ N 1 [] c h
 unfold nmP1
 cases ho:tk 1 [] c with
 | bad a e=>rw[ho] at h1;exact h1
 | ok u c1 =>
   rw[ho] at h1
   exact⟨h1.1.1.1.1 h1.1.2,h1.2⟩
theorem bind_sureQ {α β:Type} {N:Nat} {P:List Tok->PR α} {Q:α->Prop} {R:β->Prop} (h:SureQ N P Q) {F:α->List Tok->PR β} (hF:∀ x,Q x->SureQ N (F x) R):SureQ N (fun c=>bindP (P c) F) R:=by
 intro c hc
 have h1:=h c hc
 show SurePQ N R (bindP (P c) F)
 unfold bindP
 cases ho:P c with
 | bad a e=>rw[ho] at h1;exact h1
 | ok x c1=>rw[ho] at h1;exact hF x h1.1 c1 h1.2
theorem done_sureQ {β:Type} {N:Nat} {R:β->Prop} {y:β} (h:R y):SureQ N (fun c=>(.ok y c:PR β)) R:=fun c hc=>⟨h,hc⟩
theorem cmd0_sure {k:Int} (h1:1<=k) (h2:k<=18) {nm:List UInt8} {id n:Int} {row:List Vl} (hn:normC { cmd0 with kind:=k,nm:=nm,id:=id,n:=n,row:=row } = { cmd0 with kind:=k,nm:=nm,id:=id,n:=n,row:=row })
 (hk:k≠1/\k≠2/\k≠14/\k≠15) (hnm:k=3∨k=5∨k=6∨k=10∨k=13∨k=11∨k=12->isNameB nm=true)
 (hid : -9223372036854775808<=id/\id<=9223372036854775807) (hnn : -9223372036854775808<=n/\n<=9223372036854775807) (hrow:∀ u∈row,validB u.k u.n u.t=true/\RangeV u):SureC { cmd0 with kind:=k,nm:=nm,id:=id,n:=n,row:=row } :=
 ⟨h1,h2,hn,fun q=>absurd q hk.1,fun q=>by
  rcases q with q | q | q
  ·exact absurd q hk.2.1
  ·exact absurd q hk.2.2.1
  ·exact absurd q hk.2.2.2,(fun a ha=>by cases ha),Nat.zero_le _,(fun x hx=>by cases hx),hnm,hid,hnn,hrow⟩
theorem fields_sure (N:Nat) {k:Int} (h1:1<=k) (h2:k<=18) (hk:k≠1/\k≠2/\k≠14/\k≠15/\k≠4):SureQ N (fieldsP k) SureC:=by
 intro c hc
 have z:(-9223372036854775808:Int)<=0/\(0:Int)<=9223372036854775807:=by decide
 have nr:∀ u∈([]:List Vl),validB u.k u.n u.t=true/\RangeV u:=fun u hu=>by cases hu
 have hk':k≠1/\k≠2/\k≠14/\k≠15:=⟨hk.1,hk.2.1,hk.2.2.1,hk.2.2.2.1⟩
 unfold fieldsP
 split
 ·rename_i q
  exact bind_sureQ (nm1_sureQ N) (fun x hx=>done_sureQ (cmd0_sure h1 h2 (by rcases q with q | q | q | q | q<;>subst q<;>rfl) hk' (fun _=>hx) z z nr)) c hc
 ·split
  ·rename_i q0 q
   exact bind_sureQ (num_sureQ N) (fun x hx=>done_sureQ (cmd0_sure h1 h2 (by rcases q with q | q<;>subst q<;>rfl) hk' (fun r=>by omega) hx z nr)) c hc
  ·split
   ·rename_i q0 q1 q
    exact bind_sureQ (num_sureQ N) (fun x hx=>bind_sureQ (num_sureQ N) (fun y hy=>done_sureQ (cmd0_sure h1 h2 (by subst q;rfl) hk' (fun r=>by omega) hx hy nr))) c hc
   ·split
    ·rename_i q0 q1 q2 q
     exact bind_sureQ (nm1_sureQ N) (fun x hx=>bind_sureQ (num_sureQ N) (fun y hy=>done_sureQ (cmd0_sure h1 h2 (by subst q;rfl) hk' (fun r=>hx) z hy nr))) c hc
    ·split
     ·rename_i q0 q1 q2 q3 q
      exact bind_sureQ (nm1_sureQ N) (fun x hx=>bind_sureQ (list_sureQ (lit_sure N)) (fun y hy=>done_sureQ (cmd0_sure h1 h2 (by subst q;rfl) hk' (fun r=>hx) z z hy))) c hc
     ·rename_i q0 q1 q2 q3 q
      refine done_sureQ (cmd0_sure h1 h2 ?_ hk' (fun r=>by omega) z z nr) c hc
      rcases (by omega:k=16∨k=17∨k=18) with q | q | q<;>subst q<;>rfl
theorem end_sure {N:Nat} {P:List Tok->PR Cmd} (h:SureQ N P SureC):SureQ N (fun c=>endC (P c)) SureC :=
 bind_sureQ h fun x hx=>bind_sureQ (tk_sureQ N 0 []) fun _ _=>done_sureQ hx
theorem inner_sure {α:Type} {N fr M:Nat} {z:α} {p:PR α} {f:α->Cmd} {Q:α->Prop} (hb:∀ a e,p=.bad a e->0<=a/\a<=(M:Int)/\e≠0) (hk:∀ x c,p=.ok x c->Q x) (hM:fr+M<=N) (hf:∀ x,Q x->SureC (f x)) :
 match innerP (fr:Int) z p f with | .bad a e=>0<=a/\a<=(N:Int)/\e≠0 | .ok c _=>SureC c:=by
 cases p with
 | bad a e =>
   have hp:=hb a e rfl
   unfold innerP
   simp only[hp.2.2,if_false]
   exact⟨by omega,by omega,hp.2.2⟩
 | ok x c=>exact hf x (hk x c rfl)
theorem rel_sureC {x:Rln} (hx:chkC x.name x.cols=0):SureC { cmd0 with kind:=1,rel:=x } :=
 ⟨(show (1:Int)<=1 by decide),(show (1:Int)<=18 by decide),rfl,fun _=>hx,(fun q=>absurd (show (1:Int)=2∨(1:Int)=14∨(1:Int)=15 from q) (by decide)),(fun a ha=>by cases ha),Nat.zero_le _,(fun x hx=>by cases hx),(fun q=>absurd (show (1:Int)=3∨(1:Int)=5∨(1:Int)=6∨(1:Int)=10∨(1:Int)=13∨(1:Int)=11∨(1:Int)=12 from q) (by decide)),⟨(show (-9223372036854775808:Int)<=0 by decide),(show (0:Int)<=9223372036854775807 by decide)⟩,⟨(show (-9223372036854775808:Int)<=0 by decide),(show (0:Int)<=9223372036854775807 by decide)⟩,(fun u hu=>by cases hu)⟩
theorem query_sureC2 {x:Qry} (hx:RightQ x/\RangeQ x):SureC { cmd0 with kind:=2,q:=x } :=
 ⟨(show (1:Int)<=2 by decide),(show (2:Int)<=18 by decide),rfl,(fun q=>absurd (show (2:Int)=1 from q) (by decide)),fun _=>hx.1,hx.2,Nat.zero_le _,(fun x hx=>by cases hx),(fun q=>absurd (show (2:Int)=3∨(2:Int)=5∨(2:Int)=6∨(2:Int)=10∨(2:Int)=13∨(2:Int)=11∨(2:Int)=12 from q) (by decide)),⟨(show (-9223372036854775808:Int)<=0 by decide),(show (0:Int)<=9223372036854775807 by decide)⟩,⟨(show (-9223372036854775808:Int)<=0 by decide),(show (0:Int)<=9223372036854775807 by decide)⟩,(fun u hu=>by cases hu)⟩
theorem query_sureC14 {x:Qry} (hx:RightQ x/\RangeQ x):SureC { cmd0 with kind:=14,q:=x } :=
 ⟨(show (1:Int)<=14 by decide),(show (14:Int)<=18 by decide),rfl,(fun q=>absurd (show (14:Int)=1 from q) (by decide)),fun _=>hx.1,hx.2,Nat.zero_le _,(fun x hx=>by cases hx),(fun q=>absurd (show (14:Int)=3∨(14:Int)=5∨(14:Int)=6∨(14:Int)=10∨(14:Int)=13∨(14:Int)=11∨(14:Int)=12 from q) (by decide)),⟨(show (-9223372036854775808:Int)<=0 by decide),(show (0:Int)<=9223372036854775807 by decide)⟩,⟨(show (-9223372036854775808:Int)<=0 by decide),(show (0:Int)<=9223372036854775807 by decide)⟩,(fun u hu=>by cases hu)⟩
theorem query_sureC15 {x:Qry} (hx:RightQ x/\RangeQ x):SureC { cmd0 with kind:=15,q:=x } :=
 ⟨(show (1:Int)<=15 by decide),(show (15:Int)<=18 by decide),rfl,(fun q=>absurd (show (15:Int)=1 from q) (by decide)),fun _=>hx.1,hx.2,Nat.zero_le _,(fun x hx=>by cases hx),(fun q=>absurd (show (15:Int)=3∨(15:Int)=5∨(15:Int)=6∨(15:Int)=10∨(15:Int)=13∨(15:Int)=11∨(15:Int)=12 from q) (by decide)),⟨(show (-9223372036854775808:Int)<=0 by decide),(show (0:Int)<=9223372036854775807 by decide)⟩,⟨(show (-9223372036854775808:Int)<=0 by decide),(show (0:Int)<=9223372036854775807 by decide)⟩,(fun u hu=>by cases hu)⟩
theorem batch_sureC {x:List Chg} (hx:x.length<=256/\∀ y∈x,isNameB y.rel=true/\∀ u∈y.row,validB u.k u.n u.t=true/\RangeV u):SureC { cmd0 with kind:=4,b:=x } :=
 ⟨(show (1:Int)<=4 by decide),(show (4:Int)<=18 by decide),rfl,(fun q=>absurd (show (4:Int)=1 from q) (by decide)),(fun q=>absurd (show (4:Int)=2∨(4:Int)=14∨(4:Int)=15 from q) (by decide)),(fun a ha=>by cases ha),hx.1,hx.2,(fun q=>absurd (show (4:Int)=3∨(4:Int)=5∨(4:Int)=6∨(4:Int)=10∨(4:Int)=13∨(4:Int)=11∨(4:Int)=12 from q) (by decide)),⟨(show (-9223372036854775808:Int)<=0 by decide),(show (0:Int)<=9223372036854775807 by decide)⟩,⟨(show (-9223372036854775808:Int)<=0 by decide),(show (0:Int)<=9223372036854775807 by decide)⟩,(fun u hu=>by cases hu)⟩
theorem cmd_sure (l:List UInt8):match cmdT l with | .bad a e=>0<=a/\a<=(l.length:Int)/\e≠0 | .ok c _=>SureC c:=by
 by_cases he:(lexR l).e=0
 ·have hen:=(lex_ended he).1
  have hq:=lex_toksQ he hen
  obtain⟨t,c,hts⟩:=hen.some
  have hr:=kindC_range t
  rw[hts] at hq
  by_cases h0:kindC t=0
  ·have e:cmdT l=.bad t.p 250:=by
    unfold cmdT parseC
    rw[if_neg (by simp [he]),hts]
    exact if_pos h0
   rw[e]
   have ht:=hq.1 t List.mem_cons_self
   exact⟨ht.2.1,ht.2.2,by decide⟩
  ·have hk1:=kindC_one h0
   obtain⟨b1,b2,b3⟩:=tile_head he hts (by rw[hk1];decide)
   obtain⟨fr,hfr⟩:∃ fr,fr=t.p.toNat+t.x.length:=⟨_,rfl⟩
   have hfr2:(fr:Int)=t.p+t.x.length:=by omega
   obtain⟨K,hK⟩:∃ K,kindC t=K:=⟨_,rfl⟩
   have e:cmdT l=if K=1 then innerP (fr:Int) ⟨[],[]⟩ (pS (l.drop fr)) fun x => { cmd0 with kind:=1,rel:=x }
    else if K=2∨K=14∨K=15 then innerP (fr:Int) ⟨[],[],[]⟩ (pQ (l.drop fr)) fun x => { cmd0 with kind:=K,q:=x }
    else if K=4 then innerP (fr:Int) [] (parseB (l.drop fr)) fun x => { cmd0 with kind:=4,b:=x }
    else endC (fieldsP K c):=by
    unfold cmdT parseC
    rw[if_neg (by simp [he]),hts]
    simp only[hK]
    rw[if_neg (by rw[<-hK];exact h0),<-hfr2,<-hfr]
   rw[hK] at h0 hr
   have z:(-9223372036854775808:Int)<=0/\(0:Int)<=9223372036854775807:=by decide
   have nr:∀ u∈([]:List Vl),validB u.k u.n u.t=true/\RangeV u:=fun u hu=>by cases hu
   have hd:(l.drop fr).length=l.length - fr:=List.length_drop
   rw[e]
   by_cases q1:K=1
   ·rw[if_pos q1]
    refine inner_sure (M:=(l.drop fr).length) (Q:=fun r=>chkC r.name r.cols=0) (fun a e h=>?_) (fun x c h=>?_) (by omega) (fun x hx=>rel_sureC hx)
    ·have:=pS_sure (l.drop fr);rw[h] at this;exact this
    ·have:=pS_sure (l.drop fr);rw[h] at this;exact this
   rw[if_neg q1]
   by_cases q:K=2∨K=14∨K=15
   ·rw[if_pos q]
    refine inner_sure (M:=(l.drop fr).length) (Q:=fun x=>RightQ x/\RangeQ x) (fun a e h=>?_) (fun x c h=>?_) (by omega) (fun x hx=>?_)
    ·have:=pQ_sure (l.drop fr);rw[h] at this;exact this
    ·have:=pQ_sure (l.drop fr);rw[h] at this;exact this
    ·rcases q with q | q | q
     ·rw[q];exact query_sureC2 hx
     ·rw[q];exact query_sureC14 hx
     ·rw[q];exact query_sureC15 hx
   rw[if_neg q]
   by_cases q4:K=4
   ·rw[if_pos q4]
    refine inner_sure (M:=(l.drop fr).length) (Q:=fun b=>b.length<=256/\∀ x∈b,isNameB x.rel=true/\∀ u∈x.row,validB u.k u.n u.t=true/\RangeV u) (fun a e h=>?_) (fun x c h=>?_) (by omega) (fun x hx=>batch_sureC hx)
    ·have:=parseB_sure (l.drop fr);rw[h] at this;exact this
    ·have:=parseB_sure (l.drop fr);rw[h] at this;exact this
   rw[if_neg q4]
   have:=end_sure (fields_sure l.length (by omega) (by omega) ⟨q1,by omega,by omega,by omega,q4⟩) c (hq.next (by rw[hk1];decide))
   simp only at this
   cases ho:endC (fieldsP K c) with
   | bad a e=>rw[ho] at this;exact this
   | ok x c1=>rw[ho] at this;exact this.1
 ·have e:cmdT l=.bad (lexR l).at_ (lexR l).e:=by
   unfold cmdT parseC
   exact if_pos he
  rw[e]
  exact⟨(lex_place l he).1,(lex_place l he).2,he⟩
theorem SureC.txt {c:Cmd} (h:SureC c):TxtB c:=by
 have hb:RangeB c.b:=fun x hx u hu=>((h.b x hx).2 u hu).2
 have e0:c.kind≠1->c.rel=⟨[],[]⟩:=fun q=>by
  rw[<-h.norm]
  unfold normC
  rw[if_neg q]
  repeat' split
  all_goals rfl
 have e1:¬ (c.kind=2∨c.kind=14∨c.kind=15)->c.q=⟨[],[],[]⟩:=fun q=>by
  rw[<-h.norm]
  unfold normC
  repeat' split
  all_goals first
   | rfl
   | (exfalso;omega)
 have e2:¬ (c.kind=3∨c.kind=5∨c.kind=6∨c.kind=10∨c.kind=13∨c.kind=11∨c.kind=12)->c.nm=[]:=fun q=>by
  rw[<-h.norm]
  unfold normC
  have a1:¬ (c.kind=3∨c.kind=5∨c.kind=6∨c.kind=10∨c.kind=13):=by omega
  have a2:¬ c.kind=11:=by omega
  have a3:¬ c.kind=12:=by omega
  rw[if_neg a1,if_neg a2,if_neg a3]
  repeat' split
  all_goals rfl
 have hR:c.rel.name.length<=140737488351232/\∀ x∈c.rel.cols,x.x.length<=140737488351232:=by
  by_cases q:c.kind=1
  ·obtain⟨r1,r2,r3,r4⟩:=chkC_ok (h.rel q)
   exact⟨by have:=(name_len16 r1).2;omega,fun x hx=>by have:=(name_len16 (r2 x hx).1).2;omega⟩
  ·rw[e0 q]
   exact⟨by simp,fun x hx=>by cases hx⟩
 have hQ:c.q.name.length<=140737488351232/\(∀ s∈c.q.head,s.length<=140737488351232)/\∀ a∈c.q.atoms,a.rel.length<=140737488351232/\∀ t∈a.ts,t.x.length<=140737488351232:=by
  by_cases q:c.kind=2∨c.kind=14∨c.kind=15
  ·have r:=h.q q
   refine⟨by have:=(name_len16 r.name).2;omega,fun s hs=>by have:=(name_len16 (r.head s hs)).2;omega,fun a ha=>⟨by have:=(name_len16 (r.rel a ha)).2;omega,fun t ht=>?_⟩⟩
   by_cases q2:t.x=[]
   ·rw[q2];simp
   ·have:=(name_len16 (r.var a ha t ht q2).1).2
    omega
  ·rw[e1 q]
   exact⟨by simp,(fun x hx=>by cases hx),(fun x hx=>by cases hx)⟩
 have hN:c.nm.length<=140737488351232:=by
  by_cases q:c.kind=3∨c.kind=5∨c.kind=6∨c.kind=10∨c.kind=13∨c.kind=11∨c.kind=12
  ·have:=(name_len16 (h.nm q)).2
   omega
  ·rw[e2 q]
   simp
 exact⟨hR.1,hR.2,hQ.1,hQ.2.1,hQ.2.2,h.range,hb,fun x hx=>by have:=(name_len16 (h.b x hx).1).2;omega,by have:=h.nb;omega,fun hg=>by
  have:=joinC_len (b:=c.b) (fun x hx=>List.all_eq_true.1 hg x hx) hb
  have:=h.nb
  omega,hN,h.id,h.n,fun u hu=>(h.row u hu).2⟩
def wideR (c:Cmd):Bool:=decide (30<c.row.length) || c.b.any wideC
theorem once_text {c:Cmd} (h:SureC c) (hw:wideR c=false):textC c≠[]:=by
 unfold wideR at hw
 rw[Bool.or_eq_false_iff,decide_eq_false_iff_not] at hw
 rw[textC_rest h.k1 h.k2]
 have hg:(restG c).2=true:=by
  unfold restG
  split
  ·rename_i q
   have:=(show_len (h.rel q)).1
   simp only[decide_eq_true_eq]
   intro r
   rw[r] at this
   simp at this
  ·split
   ·rename_i q1 q
    have r:=h.q q
    have:=(qT_len r h.range).1
    simp only[decide_eq_true_eq]
    unfold showQ
    rw[if_pos (right_chkQ r)]
    intro r
    rw[r] at this
    simp at this
   ·split
    ·have hgd:=wide_good h.b hw.2
     simp only[decide_eq_true_eq]
     by_cases q:c.b=[]
     ·exact .inr q
     ·refine .inl ?_
      unfold showBt
      rw[if_pos (List.all_eq_true.2 hgd)]
      obtain⟨x,r,hx⟩:=List.exists_cons_of_ne_nil q
      rcases r with _ | ⟨y,r⟩
      ·rw[hx];simp [Lib.join_one,chgT]
      ·rw[hx];simp [Lib.join_cons,chgT]
    ·split
     ·exact h.nm (by omega)
     ·split
      ·rfl
      ·split
       ·rfl
       ·split
        ·exact h.nm (by omega)
        ·split
         ·show (isNameB c.nm && rowB c.row)=true
          rw[h.nm (by omega),all_rowB (by omega) (fun u hu=>(h.row u hu).1)]
          rfl
         ·rfl
 rw[hg]
 have hw:wordN c.kind≠[]:=by
  have:=(word_at h.k1 h.k2).2
  intro e
  rw[e] at this
  revert this
  decide
 split
 ·rename_i q;cases q
 ·split
  ·exact hw
  ·intro e
   exact hw (List.append_eq_nil_iff.1 e).1
theorem BigC.txt {w:World} {cells:Array Value} {c:Cmd} {N:Nat} (h:BigC w cells c N) (hN:N<=1048576):TxtB c:=by
 have hb:c.b.length<=1048576:=Nat.le_trans h.bulk hN
 exact⟨h.rname,h.cols,h.qname,h.heads,fun a ha=>⟨(h.each a ha).1,fun t ht=>((h.each a ha).2 t ht).2⟩,fun a ha t ht=>((h.each a ha).2 t ht).1,h.batch,h.brel,hb,
  fun hg=>by
   have:=joinC_len (b:=c.b) (fun x hx=>List.all_eq_true.1 hg x hx) h.batch
   omega,h.name,h.id,h.n,h.row⟩
theorem text_len {c:Cmd} (h:TxtB c):(textC c).length<=281474976710656:=by
 by_cases hk:1<=c.kind/\c.kind<=18
 case neg=>rw[textC_out hk];simp
 rw[textC_rest hk.1 hk.2]
 have hw:=wordN_len c.kind
 have h1:=Lib.itoa_length_le c.id h.id.1 h.id.2
 have h2:=Lib.itoa_length_le c.n h.n.1 h.n.2
 have h3:=h.nm
 have h4:=showBt_len h.join
 have h5:(showC c.rel.name c.rel.cols).length<=16384:=by
  by_cases q:chkC c.rel.name c.rel.cols=0
  ·exact (show_len q).2
  ·unfold showC
   rw[if_neg q]
   simp
 have h6:(showQ c.q).length<=16384:=by
  unfold showQ
  split
  ·rename_i q
   exact (qT_len (chkQ_right q) h.range).2.1
  ·simp
 have h7:(showRow c.row).length<=7802:=by
  unfold showRow
  split
  ·rename_i q
   exact (rowT_size q h.row).2
  ·simp
 have hr:(restG c).1.length<=140737488365000:=by
  unfold restG
  repeat' split
  all_goals
   simp only[List.length_append,List.length_cons,List.length_nil]
   omega
 split
 ·simp
 ·split
  ·omega
  ·simp only[List.length_append,List.length_cons]
   omega
set_option maxHeartbeats 8000000 in
set_option maxRecDepth 100000 in
theorem conce25_bad (s:ByteArray) (w:World) (a f:Int) (hg:GlobW w) (hp:Calls Tryz.prog 13 #[.string s] w (CmdPost w (.bad a f))) (hf:f≠0) (h0:0<=a) (h1:a<=s.size) :
 Calls Tryz.prog 7 #[.string s] w fun e w'=>e=.returned (.bool true)/\Below w.heap.size w w':=by
 have HP:=Lib.hid hp
 have HAW:=Lib.hid (fun W (hW:Below w.heap.size w W)=>awake25 W (hg.below hW))
 have q0:(f != 0)=true:=by simpa using hf
 have d0:decide (0<=a)=true:=decide_eq_true h0
 have d1:decide (a<=(s.size:Int))=true:=decide_eq_true h1
 clear hp hg hf
 go_enter Tryz.func7,Tryz.ntmps7
 go_wp2_with fail
 refine HP.out.mono ?_
 rintro e w1 ⟨rfl,hb1⟩
 have hbw:=balloc hb1 (.cells #[.int .i64 0,.string ⟨#[]⟩,.slice none 0 0,.string ⟨#[]⟩,.slice none 0 0,.slice none 0 0,.slice none 0 0,.string ⟨#[]⟩,.int .i64 0,.int .i64 0,.slice none 0 0] 34)
 have hq:=Blk.new w1 34 #[.int .i64 0,.string ⟨#[]⟩,.slice none 0 0,.string ⟨#[]⟩,.slice none 0 0,.slice none 0 0,.slice none 0 0,.string ⟨#[]⟩,.int .i64 0,.int .i64 0,.slice none 0 0]
 obtain⟨W1,hW1⟩:∃ W1,w1.alloc (.cells #[.int .i64 0,.string ⟨#[]⟩,.slice none 0 0,.string ⟨#[]⟩,.slice none 0 0,.slice none 0 0,.slice none 0 0,.string ⟨#[]⟩,.int .i64 0,.int .i64 0,.slice none 0 0] 34)=W1:=⟨_,rfl⟩
 rw[hW1] at hbw hq
 have k0:=hq.cell 0
 have k1:=hq.cell 1
 have k2:=hq.cell 2
 have k3:=hq.cell 3
 have k4:=hq.cell 4
 have k5:=hq.cell 5
 have k6:=hq.cell 6
 have k7:=hq.cell 7
 have k8:=hq.cell 8
 have k9:=hq.cell 9
 have k10:=hq.cell 10
 have kl:=hq.lt
 simp only[List.getElem?_toArray,List.getElem?_cons_zero,List.getElem?_cons_succ] at k0 k1 k2 k3 k4 k5 k6 k7 k8 k9 k10
 have HW1:=Lib.hid hW1
 have HB1:=Lib.hid hbw
 clear hb1 hbw hq hW1 HP
 go_upto_region 2 with fail
 rw[HW1.out]
 go_wp2_with fail
 refine (of_any _ 0 0 0 ⟨#[]⟩ ⟨#[]⟩ ⟨#[]⟩ none none none none none 0 0 0 0 0 0 0 0 0 0).mono ?_
 rintro e w2 ⟨rfl,hb2⟩
 have HB2:=Lib.hid (HB1.out.trans (hb2.mono HB1.out.size))
 clear hb2 k0 k1 k2 k3 k4 k5 k6 k7 k8 k9 k10 kl
 go_wp2_with fail
 refine (sameCmd_any w2 _ _ cmd0 (cmd_nil w2) (cmd_nil w2)).mono ?_
 rintro e w3 ⟨rfl,hb3⟩
 have HB3:=Lib.hid (HB2.out.trans (hb3.mono HB2.out.size))
 have HA3:=Lib.hid (HAW.out _ HB3.out)
 clear hb3
 go_wp2_with fail
 refine HA3.out.mono ?_
 rintro e w4 ⟨rfl,hb4⟩
 have HB4:=Lib.hid (HB3.out.trans (hb4.mono HB3.out.size))
 clear hb4
 go_wp2_with fail
 go_ret
 exact⟨by first | rfl | simp,HB4.out⟩
set_option maxHeartbeats 8000000 in
set_option maxRecDepth 100000 in
theorem conce25_good (s:ByteArray) (w:World) (c:Cmd) (r:List Tok) (hg:GlobW w) (hp:Calls Tryz.prog 13 #[.string s] w (CmdPost w (.ok c r))) (hS:SureC c) (hsm:SmallC c) :
 Calls Tryz.prog 7 #[.string s] w fun e w'=>e=.returned (.bool true)/\Below w.heap.size w w':=by
 have hB:=hS.txt
 have hlen:=text_len hB
 have HCP:=Lib.hid (fun W ca (h:CmdAt W ca c)=>copied_any W ca c h (by have:=hsm.cols;omega) (by have:=hsm.atoms;omega) (by have:=hsm.b;omega) (by have:=hsm.row;omega))
 have HTX:=Lib.hid (fun W ca (hc:CmdAt W ca c) (hW:Below w.heap.size w W)=>text_any W ca c hc hB (hg.below hW))
 have HAW:=Lib.hid (fun W (hW:Below w.heap.size w W)=>awake25 W (hg.below hW))
 have HSM:=Lib.hid (fun W ca cb (h1:CmdAt W ca c) (h2:CmdAt W cb c)=>sameCmd_any W ca cb c h1 h2)
 have HON:=Lib.hid (once_text hS)
 have hbk0:textC c≠[]->(textC c).length<=16384->∃ r,cmdT (textC c)=.ok c r:=fun q1 q2=>by
  have:=cmd_back hB q1 q2 (fun _=>hS.nb)
  rw[hS.norm] at this
  exact this
 have HBK:=Lib.hid hbk0
 obtain⟨TX,hTX⟩:∃ TX,textC c=TX:=⟨_,rfl⟩
 rw[hTX] at hlen HTX HON HBK
 have HPA:=Lib.hid (fun W (hW:Below w.heap.size w W)=>cmd_any ⟨TX.toArray⟩ W (by show TX.length<=_;exact hlen) (hg.below hW))
 have hpx:cmdT (⟨TX.toArray⟩:ByteArray).data.toList=cmdT TX:=by simp
 rw[hpx] at HPA
 have HP:=Lib.hid hp
 have HSL:=Lib.hid hsm
 have htz:(⟨TX.toArray⟩:ByteArray).size=TX.length:=by simp [ByteArray.size]
 have htb:((⟨TX.toArray⟩:ByteArray).toList == [])=decide (TX=[]):=by
  rw[ByteArray.toList_eq]
  cases TX<;>simp
 obtain⟨tb,htb0⟩:∃ tb,(⟨TX.toArray⟩:ByteArray)=tb:=⟨_,rfl⟩
 rw[htb0] at htz htb HTX HPA
 have HTZ:=Lib.hid htz
 have HTB:=Lib.hid htb
 have HWD:=Lib.hid (show wideR c=(decide (30<c.row.length) || c.b.any wideC) from rfl)
 clear hp hB hg hS hsm hTX hpx htz htb htb0 hlen hbk0
 obtain⟨ck,hck⟩:∃ ck,c.kind=ck:=⟨_,rfl⟩
 obtain⟨ci,hci⟩:∃ ci,c.id=ci:=⟨_,rfl⟩
 obtain⟨cn,hcn⟩:∃ cn,c.n=cn:=⟨_,rfl⟩
 have HK:=Lib.hid (And.intro hck (And.intro hci hcn))
 clear hck hci hcn
 go_enter Tryz.func7,Tryz.ntmps7
 go_wp2_with fail
 refine HP.out.mono ?_
 rintro e w1 ⟨cells1,rfl,hown,hb1⟩
 have hat:=hown.at HSL.out
 obtain⟨x1,x2,x3,o1,o2,o3,o4,o5,n1,l1,n2,l2,n3,l3,n4,l4,n5,l5,rfl⟩:=hat.form
 rw[HK.out.1,HK.out.2.1,HK.out.2.2] at hat ⊢
 have hn4:n4=c.b.length/\n5=c.row.length:=by
  obtain⟨cv,hv,av,bv,rv,hh,_,_,_,h4,h5⟩:=hat
  obtain⟨o,l,rfl,_,_⟩:=h4.form
  obtain⟨o',l',rfl,_,_⟩:=h5.form
  rw[Array.mk.injEq] at hh
  simp only[List.cons.injEq,Value.slice.injEq,List.length_map] at hh
  exact⟨hh.2.2.2.2.2.2.1.2.1,hh.2.2.2.2.2.2.2.2.2.2.1.2.1⟩
 have HN:=Lib.hid hn4
 have hbw:=balloc hb1 (.cells #[.int .i64 ck,.string x1,.slice o1 n1 l1,.string x2,.slice o2 n2 l2,.slice o3 n3 l3,.slice o4 n4 l4,.string x3,.int .i64 ci,.int .i64 cn,.slice o5 n5 l5] 34)
 have hq:=Blk.new w1 34 #[.int .i64 ck,.string x1,.slice o1 n1 l1,.string x2,.slice o2 n2 l2,.slice o3 n3 l3,.slice o4 n4 l4,.string x3,.int .i64 ci,.int .i64 cn,.slice o5 n5 l5]
 have hat1:=hat.keep (balloc (Below.refl w1.heap.size w1) (.cells #[.int .i64 ck,.string x1,.slice o1 n1 l1,.string x2,.slice o2 n2 l2,.slice o3 n3 l3,.slice o4 n4 l4,.string x3,.int .i64 ci,.int .i64 cn,.slice o5 n5 l5] 34))
 obtain⟨W1,hW1⟩:∃ W1,w1.alloc (.cells #[.int .i64 ck,.string x1,.slice o1 n1 l1,.string x2,.slice o2 n2 l2,.slice o3 n3 l3,.slice o4 n4 l4,.string x3,.int .i64 ci,.int .i64 cn,.slice o5 n5 l5] 34)=W1:=⟨_,rfl⟩
 obtain⟨b,hbb⟩:∃ b,w1.heap.size=b:=⟨_,rfl⟩
 rw[hW1] at hbw hq hat1
 rw[hbb] at hq
 have k0:=hq.cell 0
 have k1:=hq.cell 1
 have k2:=hq.cell 2
 have k3:=hq.cell 3
 have k4:=hq.cell 4
 have k5:=hq.cell 5
 have k6:=hq.cell 6
 have k7:=hq.cell 7
 have k8:=hq.cell 8
 have k9:=hq.cell 9
 have k10:=hq.cell 10
 have kl:=hq.lt
 simp only[List.getElem?_toArray,List.getElem?_cons_zero,List.getElem?_cons_succ] at k0 k1 k2 k3 k4 k5 k6 k7 k8 k9 k10
 have HW1:=Lib.hid (And.intro hW1 hbb)
 have HB1:=Lib.hid hbw
 have HQ1:=Lib.hid hq
 have HAT1:=Lib.hid hat1
 clear hb1 hbw hq hW1 hbb hat hat1 hown HP hn4
 go_upto_region 2 with fail
 rw[HW1.out.1,HW1.out.2]
 clear HW1
 go_wp2_with fail
 refine (HCP.out _ _ HAT1.out).mono ?_
 rintro e w2 ⟨cells2,rfl,hat2,hb2⟩
 have HB2:=Lib.hid (HB1.out.trans (hb2.mono HB1.out.size))
 have HQ2:=Lib.hid (HQ1.out.below hb2 HQ1.out.lt)
 have HC2:=Lib.hid (HAT1.out.keep hb2)
 have HT2:=Lib.hid (HTX.out _ _ hat2 HB2.out)
 clear hat2 hb2 k0 k1 k2 k3 k4 k5 k6 k7 k8 k9 k10 kl HCP HQ1 HAT1 HTX
 go_wp2_with fail
 refine HT2.out.mono ?_
 rintro e w3 ⟨rfl,hb3⟩
 have HB3:=Lib.hid (HB2.out.trans (hb3.mono HB2.out.size))
 have HQ3:=Lib.hid (HQ2.out.below hb3 HQ2.out.lt)
 have HC3:=Lib.hid (HC2.out.keep hb3)
 clear hb3 HQ2 HC2 HT2
 go_upto_region 5 with fail
 go_cut [47] from 41 (fun s47 wx=>s47=.bool (decide (TX=[]) || decide (16384<TX.length))/\wx=w3)
 case first =>
  by_cases hE:TX=[]
  ·have hb:(tb.toList == [])=true:=HTB.out.trans (decide_eq_true hE)
   have HF:=Lib.hid (show (decide (TX=[]) || decide (16384<TX.length))=true by rw[decide_eq_true hE];rfl)
   clear hE
   go_wp2_with fail
   go_meet
   exact⟨by rw[HF.out],rfl⟩
  ·have hb:(tb.toList == [])=false:=HTB.out.trans (decide_eq_false hE)
   by_cases hL:16384<TX.length
   ·have HF:=Lib.hid (show (decide (TX=[]) || decide (16384<TX.length))=true by rw[decide_eq_true hL];simp)
    have hd:decide (16384<(tb.size:Int))=true:=by have:=HTZ.out;simp;omega
    have hd2:decide (16384<tb.size)=true:=by have:=HTZ.out;simp;omega
    have hd3:16384<tb.size:=by have:=HTZ.out;omega
    clear hE hL
    go_wp2_with fail
    go_meet
    exact⟨by rw[HF.out],rfl⟩
   ·have HF:=Lib.hid (show (decide (TX=[]) || decide (16384<TX.length))=false by rw[decide_eq_false hL,decide_eq_false hE];rfl)
    have hd:decide (16384<(tb.size:Int))=false:=by have:=HTZ.out;simp;omega
    have hd2:decide (16384<tb.size)=false:=by have:=HTZ.out;simp;omega
    have hd3:¬ 16384<tb.size:=by have:=HTZ.out;omega
    clear hE hL
    go_wp2_with fail
    go_meet
    exact⟨by rw[HF.out],rfl⟩
 case rest =>
  obtain⟨rfl,rfl⟩:=hcut
  rename_i KK hKK
  refine hKK _ _ ?_
  clear hKK KK
  obtain⟨lg,hlg⟩:∃ lg,(decide (TX=[]) || decide (16384<TX.length))=lg:=⟨_,rfl⟩
  rw[hlg]
  have k6:=HQ3.out.cell 6
  have k10:=HQ3.out.cell 10
  have kl:=HQ3.out.lt
  simp only[List.getElem?_toArray,List.getElem?_cons_zero,List.getElem?_cons_succ] at k6 k10
  cases lg with
  | true =>
    have hch:ChgsAt wc (.slice o4 n4 l4) c.b:=by
     obtain⟨cv,hv,av,bv,rv,hh,_,_,_,h4,_⟩:=HC3.out
     rw[Array.mk.injEq] at hh
     simp only[List.cons.injEq] at hh
     rw[hh.2.2.2.2.2.2.1]
     exact h4
    have HCH:=Lib.hid hch
    have HLG:=Lib.hid hlg
    have HNB:=Lib.hid HN.out.1.symm
    have h256:n4<=256:=by rw[HN.out.1];exact HSL.out.b
    clear hch hlg HQ3 HC3 HPA HBK HSM
    go_wp2_with fail
    clear k6 k10 kl
    go_loopw [7,55] (fun wd i wr=>∃ (k:Nat) (wb:Bool),k<=n4/\wd=.bool wb/\i=.int .i64 k/\Hid (wb=(decide (30<c.row.length) || (c.b.take k).any wideC))/\Hid (Below wc.heap.size wc wr)) (fun _ i _=>n4 - (intOf i).toNat)
    case atStart=>exact⟨0,_,Nat.zero_le _,rfl,rfl,Lib.hid (by rw[<-HN.out.2];simp;omega),Lib.hid (Below.refl _ _)⟩
    case round =>
     obtain⟨k,wb,hk,rfl,rfl,HW,BW⟩:=hrel
     by_cases hlt:k<n4
     ·obtain⟨x,hx⟩:∃ x,c.b[k]? = some x:=⟨c.b[k]'(by rw[HNB.out];exact hlt),List.getElem?_eq_getElem (by rw[HNB.out];exact hlt)⟩
      obtain⟨b1,oo,c1,rv,hv1,_,_,hl1,q0,q1,q2,hr1,_⟩:=(HCH.out.keep BW.out).get hx
      rw[HNB.out] at hv1
      simp only[Value.slice.injEq,true_and] at hv1
      obtain⟨rfl,rfl⟩:=hv1
      obtain⟨ra,rc,rfl,_,_⟩:=hr1.form
      rw[List.length_map] at q2
      have hdk:decide ((k:Int)<0)=false:=by simp
      have hdn:decide ((n4:Int)<=(k:Int))=false:=by simp;omega
      have hst:(decide (30<c.row.length) || (c.b.take (k+1)).any wideC)=((decide (30<c.row.length) || (c.b.take k).any wideC) || wideC x):=by rw[take_any_succ wideC hx,Bool.or_assoc]
      rw[<-HW.out] at hst
      have HST:=Lib.hid hst
      have hwx:wideC x=decide (30<x.row.length):=rfl
      have HWX:=Lib.hid hwx
      have hbk:Below wc.heap.size wc (wr.alloc (.cells #[.bool x.add,.string ⟨x.rel.toArray⟩,.slice ra x.row.length rc] 51)):=balloc BW.out _
      have HBX:=Lib.hid hbk
      clear hst hwx hx hr1 hbk
      generalize x.row.length=rn at *
      cases wb with
      | true =>
        go_wp2_with fail
        go_roundw
        case rel=>exact⟨k+1,true,by omega,rfl,by go_num,Lib.hid (by rw[HST.out];rfl),HBX⟩
        case measure=>simp [intOf];omega
      | false =>
        by_cases h30:30<rn
        ·have hd:(30:Int)<(rn:Int):=by omega
         have hdd:decide ((30:Int)<(rn:Int))=true:=decide_eq_true hd
         go_wp2_with fail
         go_roundw
         case rel=>exact⟨k+1,true,by omega,rfl,by go_num,Lib.hid (by rw[HST.out,HWX.out,decide_eq_true h30];rfl),HBX⟩
         case measure=>simp [intOf];omega
        ·have hd:¬ ((30:Int)<(rn:Int)):=by omega
         have hdd:decide ((30:Int)<(rn:Int))=false:=decide_eq_false hd
         go_wp2_with fail
         go_roundw
         case rel=>exact⟨k+1,false,by omega,rfl,by go_num,Lib.hid (by rw[HST.out,HWX.out,decide_eq_false h30];rfl),HBX⟩
         case measure=>simp [intOf];omega
     ·obtain rfl:k=n4:=by omega
      have hw:=HW.out
      rw[List.take_of_length_le (by rw[HNB.out];exact Nat.le_refl _),<-HWD.out] at hw
      have HWW:=Lib.hid hw
      have HBW:=Lib.hid (HB3.out.trans (BW.out.mono HB3.out.size))
      have HA4:=Lib.hid (HAW.out _ HBW.out)
      clear hw
      cases wb with
      | true =>
        go_wp2_with fail
        refine HA4.out.mono ?_
        rintro e w4 ⟨rfl,hb4⟩
        have HB4:=Lib.hid (HBW.out.trans (hb4.mono HBW.out.size))
        clear hb4
        go_wp2_with fail
        go_ret
        exact⟨by first | rfl | simp,HB4.out⟩
      | false =>
        have hL:16384<TX.length:=by
         have h1:=HLG.out
         rw[decide_eq_false (HON.out HWW.out.symm),Bool.false_or] at h1
         exact of_decide_eq_true h1
        have hd:decide (16384<(tb.size:Int))=true:=by have:=HTZ.out;simp;omega
        have hd2:decide (16384<tb.size)=true:=by have:=HTZ.out;simp;omega
        have hd3:16384<tb.size:=by have:=HTZ.out;omega
        clear hL
        go_wp2_with fail
        refine HA4.out.mono ?_
        rintro e w4 ⟨rfl,hb4⟩
        have HB4:=Lib.hid (HBW.out.trans (hb4.mono HBW.out.size))
        clear hb4
        go_wp2_with fail
        go_ret
        exact⟨by first | rfl | simp,HB4.out⟩
  | false =>
    have hne:TX≠[]:=fun q=>by rw[q] at hlg;simp at hlg
    have hle:TX.length<=16384:=by
     rw[decide_eq_false hne,Bool.false_or] at hlg
     have:=of_decide_eq_false hlg
     omega
    obtain⟨r2,hr2⟩:=HBK.out hne hle
    have HP3:=Lib.hid (hr2 ▸ HPA.out wc HB3.out)
    clear hne hle hr2 hlg HBK HPA HON k6 k10 kl
    go_wp2_with fail
    refine HP3.out.mono ?_
    rintro e w4 ⟨cells3,rfl,hown,hb4⟩
    have hat:=hown.at HSL.out
    obtain⟨y1,y2,y3,p1,p2,p3,p4,p5,m1,e1,m2,e2,m3,e3,m4,e4,m5,e5,rfl⟩:=hat.form
    rw[HK.out.1,HK.out.2.1,HK.out.2.2] at hat ⊢
    have hq4:=(HQ3.out.below hb4 HQ3.out.lt).alloc (.cells #[.int .i64 ck,.string y1,.slice p1 m1 e1,.string y2,.slice p2 m2 e2,.slice p3 m3 e3,.slice p4 m4 e4,.string y3,.int .i64 ci,.int .i64 cn,.slice p5 m5 e5] 34)
    have hn4:=Blk.new w4 34 #[.int .i64 ck,.string y1,.slice p1 m1 e1,.string y2,.slice p2 m2 e2,.slice p3 m3 e3,.slice p4 m4 e4,.string y3,.int .i64 ci,.int .i64 cn,.slice p5 m5 e5]
    have hbw:=balloc (HB3.out.trans (hb4.mono HB3.out.size)) (.cells #[.int .i64 ck,.string y1,.slice p1 m1 e1,.string y2,.slice p2 m2 e2,.slice p3 m3 e3,.slice p4 m4 e4,.string y3,.int .i64 ci,.int .i64 cn,.slice p5 m5 e5] 34)
    have hat4:=hat.keep (balloc (Below.refl w4.heap.size w4) (.cells #[.int .i64 ck,.string y1,.slice p1 m1 e1,.string y2,.slice p2 m2 e2,.slice p3 m3 e3,.slice p4 m4 e4,.string y3,.int .i64 ci,.int .i64 cn,.slice p5 m5 e5] 34))
    have hac4:=HC3.out.keep (balloc hb4 (.cells #[.int .i64 ck,.string y1,.slice p1 m1 e1,.string y2,.slice p2 m2 e2,.slice p3 m3 e3,.slice p4 m4 e4,.string y3,.int .i64 ci,.int .i64 cn,.slice p5 m5 e5] 34))
    obtain⟨W4,hW4⟩:∃ W4,w4.alloc (.cells #[.int .i64 ck,.string y1,.slice p1 m1 e1,.string y2,.slice p2 m2 e2,.slice p3 m3 e3,.slice p4 m4 e4,.string y3,.int .i64 ci,.int .i64 cn,.slice p5 m5 e5] 34)=W4:=⟨_,rfl⟩
    obtain⟨bi,hbi⟩:∃ bi,w4.heap.size=bi:=⟨_,rfl⟩
    rw[hW4] at hq4 hn4 hbw hat4 hac4
    have HW4:=Lib.hid (And.intro hW4 hbi)
    rw[hbi] at hn4
    obtain⟨SS,hSS⟩:∃ SS:World->Prop,SS=fun w'=>Blk w' b 34 #[.int .i64 ck,.string x1,.slice o1 n1 l1,.string x2,.slice o2 n2 l2,.slice o3 n3 l3,.slice o4 n4 l4,.string x3,.int .i64 ci,.int .i64 cn,.slice o5 n5 l5]/\Blk w' bi 34 #[.int .i64 ck,.string y1,.slice p1 m1 e1,.string y2,.slice p2 m2 e2,.slice p3 m3 e3,.slice p4 m4 e4,.string y3,.int .i64 ci,.int .i64 cn,.slice p5 m5 e5]/\Below W4.heap.size W4 w':=⟨_,rfl⟩
    have hsd:SS W4.drew:=by rw[hSS];exact⟨hq4.drew,hn4.drew,bdrew (Below.refl _ _)⟩
    have hsk:∀ W W',SS W->Below W.heap.size W W'->SS W':=fun W W' q hb=>by
     rw[hSS] at q ⊢
     exact⟨q.1.below hb q.1.lt,q.2.1.below hb q.2.1.lt,q.2.2.trans (hb.mono q.2.2.size)⟩
    have HSD:=Lib.hid hsd
    have HSK:=Lib.hid hsk
    have HSC:=Lib.hid (fun W (q:SS W)=>(by rw[hSS] at q;exact q.1:Blk W b 34 #[.int .i64 ck,.string x1,.slice o1 n1 l1,.string x2,.slice o2 n2 l2,.slice o3 n3 l3,.slice o4 n4 l4,.string x3,.int .i64 ci,.int .i64 cn,.slice o5 n5 l5]))
    have HSI:=Lib.hid (fun W (q:SS W)=>(by rw[hSS] at q;exact q.2.1:Blk W bi 34 #[.int .i64 ck,.string y1,.slice p1 m1 e1,.string y2,.slice p2 m2 e2,.slice p3 m3 e3,.slice p4 m4 e4,.string y3,.int .i64 ci,.int .i64 cn,.slice p5 m5 e5]))
    have HSB:=Lib.hid (fun W (q:SS W)=>(by rw[hSS] at q;exact hbw.trans (q.2.2.mono hbw.size):Below w.heap.size w W))
    have HAI:=Lib.hid (fun W (q:SS W)=>(by rw[hSS] at q;exact hat4.keep q.2.2:CmdAt W #[.int .i64 ck,.string y1,.slice p1 m1 e1,.string y2,.slice p2 m2 e2,.slice p3 m3 e3,.slice p4 m4 e4,.string y3,.int .i64 ci,.int .i64 cn,.slice p5 m5 e5] c))
    have HAC:=Lib.hid (fun W (q:SS W)=>(by rw[hSS] at q;exact hac4.keep q.2.2:CmdAt W #[.int .i64 ck,.string x1,.slice o1 n1 l1,.string x2,.slice o2 n2 l2,.slice o3 n3 l3,.slice o4 n4 l4,.string x3,.int .i64 ci,.int .i64 cn,.slice o5 n5 l5] c))
    clear hSS hsd hsk hq4 hn4 hbw hat4 hac4 hat hb4 hW4 hbi hown HP3 HB3 HQ3 HC3 HB1 HB2
    go_upto_region 14 with fail
    rw[HW4.out.1,HW4.out.2]
    clear HW4
    have HSS:SS W4.drew:=HSD.out
    refine wp_region_held_drew (by kernel_rfl) HSS (fun _=>?_)
    refine Held.one 0 rfl (by kernel_rfl) (fun K hK=>?_)
    go_simp
    refine (HAW.out _ (HSB.out _ HSS)).mono ?_
    rintro e w6 ⟨rfl,hbw6⟩
    have HSSw6:=HSK.out _ _ HSS hbw6
    refine hK.out _ _ HSSw6 ?_
    clear hK K HSS hbw6
    rename SS w6=>HSS
    try simp only[List.setIfInBounds_toArray,List.set_cons_succ,List.set_cons_zero]
    refine Held.one 1 rfl (by kernel_rfl) (fun K hK=>?_)
    go_simp
    refine hK.out _ _ HSS ?_
    clear hK K
    try simp only[List.setIfInBounds_toArray,List.set_cons_succ,List.set_cons_zero]
    refine Held.one 2 rfl (by kernel_rfl) (fun K hK=>?_)
    go_simp
    refine hK.out _ _ HSS ?_
    clear hK K
    try simp only[List.setIfInBounds_toArray,List.set_cons_succ,List.set_cons_zero]
    refine Held.one 3 rfl (by kernel_rfl) (fun K hK=>?_)
    go_simp
    refine hK.out _ _ HSS ?_
    clear hK K
    try simp only[List.setIfInBounds_toArray,List.set_cons_succ,List.set_cons_zero]
    refine Held.one 4 rfl (by kernel_rfl) (fun K hK=>?_)
    go_simp
    refine hK.out _ _ HSS ?_
    clear hK K
    try simp only[List.setIfInBounds_toArray,List.set_cons_succ,List.set_cons_zero]
    refine Held.one 5 rfl (by kernel_rfl) (fun K hK=>?_)
    go_simp
    refine hK.out _ _ HSS ?_
    clear hK K
    try simp only[List.setIfInBounds_toArray,List.set_cons_succ,List.set_cons_zero]
    refine Held.one 6 rfl (by kernel_rfl) (fun K hK=>?_)
    go_simp
    refine hK.out _ _ HSS ?_
    clear hK K
    try simp only[List.setIfInBounds_toArray,List.set_cons_succ,List.set_cons_zero]
    refine Held.one 7 rfl (by kernel_rfl) (fun K hK=>?_)
    go_simp
    refine hK.out _ _ HSS ?_
    clear hK K
    try simp only[List.setIfInBounds_toArray,List.set_cons_succ,List.set_cons_zero]
    refine Held.one 8 rfl (by kernel_rfl) (fun K hK=>?_)
    go_simp
    refine hK.out _ _ HSS ?_
    clear hK K
    try simp only[List.setIfInBounds_toArray,List.set_cons_succ,List.set_cons_zero]
    refine Held.one 9 rfl (by kernel_rfl) (fun K hK=>?_)
    go_simp
    refine hK.out _ _ HSS ?_
    clear hK K
    try simp only[List.setIfInBounds_toArray,List.set_cons_succ,List.set_cons_zero]
    refine Held.take 10 92 (v:=?_) rfl rfl (by kernel_rfl) (by kernel_rfl) (by kernel_rfl) (fun _ _ _ _ h=>h) (by kernel_rfl) HSS ?_ ?_
    rotate_left
    ·intro u hu
     have hq:=HSI.out u hu
     have k0:=hq.cell 0
     have k1:=hq.cell 1
     have k2:=hq.cell 2
     have k3:=hq.cell 3
     have k4:=hq.cell 4
     have k5:=hq.cell 5
     have k6:=hq.cell 6
     have k7:=hq.cell 7
     have k8:=hq.cell 8
     have k9:=hq.cell 9
     have k10:=hq.cell 10
     simp only[List.getElem?_toArray,List.getElem?_cons_zero,List.getElem?_cons_succ] at k0 k1 k2 k3 k4 k5 k6 k7 k8 k9 k10
     have kl:=hq.lt
     clear hq hu
     go_simp
     try with_reducible rfl
    try simp only[List.setIfInBounds_toArray,List.set_cons_succ,List.set_cons_zero]
    refine Held.take 12 94 (v:=?_) rfl rfl (by kernel_rfl) (by kernel_rfl) (by kernel_rfl) (fun _ _ _ _ h=>h) (by kernel_rfl) HSS ?_ ?_
    rotate_left
    ·intro u hu
     have hq:=HSC.out u hu
     have k0:=hq.cell 0
     have k1:=hq.cell 1
     have k2:=hq.cell 2
     have k3:=hq.cell 3
     have k4:=hq.cell 4
     have k5:=hq.cell 5
     have k6:=hq.cell 6
     have k7:=hq.cell 7
     have k8:=hq.cell 8
     have k9:=hq.cell 9
     have k10:=hq.cell 10
     simp only[List.getElem?_toArray,List.getElem?_cons_zero,List.getElem?_cons_succ] at k0 k1 k2 k3 k4 k5 k6 k7 k8 k9 k10
     have kl:=hq.lt
     clear hq hu
     go_simp
     try with_reducible rfl
    try simp only[List.setIfInBounds_toArray,List.set_cons_succ,List.set_cons_zero]
    refine Held.one 11 rfl (by kernel_rfl) (fun K hK=>?_)
    go_simp
    refine (of_any _ ck ci cn y1 y2 y3 p1 p2 p3 p4 p5 m1 e1 m2 e2 m3 e3 m4 e4 m5 e5).mono ?_
    rintro e w7 ⟨rfl,hbw7⟩
    have HSSw7:=HSK.out _ _ HSS hbw7
    refine hK.out _ _ HSSw7 ?_
    clear hK K HSS hbw7
    rename SS w7=>HSS
    try simp only[List.setIfInBounds_toArray,List.set_cons_succ,List.set_cons_zero]
    refine Held.one 13 rfl (by kernel_rfl) (fun K hK=>?_)
    go_simp
    refine (of_any _ ck ci cn x1 x2 x3 o1 o2 o3 o4 o5 n1 l1 n2 l2 n3 l3 n4 l4 n5 l5).mono ?_
    rintro e w8 ⟨rfl,hbw8⟩
    have HSSw8:=HSK.out _ _ HSS hbw8
    refine hK.out _ _ HSSw8 ?_
    clear hK K HSS hbw8
    rename SS w8=>HSS
    try simp only[List.setIfInBounds_toArray,List.set_cons_succ,List.set_cons_zero]
    refine Held.one 14 rfl (by kernel_rfl) (fun K hK=>?_)
    go_simp
    refine (HSM.out _ _ _ (HAI.out _ HSS) (HAC.out _ HSS)).mono ?_
    rintro e w9 ⟨rfl,hbw9⟩
    have HSSw9:=HSK.out _ _ HSS hbw9
    refine hK.out _ _ HSSw9 ?_
    clear hK K HSS hbw9
    rename SS w9=>HSS
    try simp only[List.setIfInBounds_toArray,List.set_cons_succ,List.set_cons_zero]
    refine Held.one 15 rfl (by kernel_rfl) (fun K hK=>?_)
    go_simp
    refine hK.out _ _ HSS ?_
    clear hK K
    try simp only[List.setIfInBounds_toArray,List.set_cons_succ,List.set_cons_zero]
    refine Held.one 16 rfl (by kernel_rfl) (fun K hK=>?_)
    go_simp
    refine hK.out _ _ HSS ?_
    clear hK K
    try simp only[List.setIfInBounds_toArray,List.set_cons_succ,List.set_cons_zero]
    refine wpAnyH_done (by kernel_rfl) ?_ _
    have HBE:=Lib.hid (HSB.out _ HSS)
    go_wp2_with fail
    go_ret
    exact⟨by first | rfl | simp,HBE.out⟩
theorem conce25_law (s:ByteArray) (w:World) (hs:s.size<=140737488351232) (hg:GlobW w) :
 Calls Tryz.prog 7 #[.string s] w fun e w'=>e=.returned (.bool true)/\Below w.heap.size w w':=by
 have hp:=cmd_any s w (by omega) hg
 have hsu:=cmd_sure s.data.toList
 cases hq:cmdT s.data.toList with
 | bad a f =>
   rw[hq] at hp hsu
   exact conce25_bad s w a f hg hp hsu.2.2 hsu.1 hsu.2.1
 | ok c r =>
   rw[hq] at hp hsu
   exact conce25_good s w c r hg hp hsu (cmdT_small hq)
end Go.Proofs.YtamjadghncnbcaaGreatDoor
