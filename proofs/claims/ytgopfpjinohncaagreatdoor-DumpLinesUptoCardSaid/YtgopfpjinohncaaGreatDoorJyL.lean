/- What query.Shape and Show tell, plainly; a right query's text is read back. Batches of changes: what they are in memory; what is told of them, plainly. What change.Parse tells, plainly. -/
import Derived.Test.YtgopfpjinohncaaGreatDoorLcL
import Derived.Test.YtgopfpjinohncaaGreatDoorGaL
import Derived.Test.YtgopfpjinohncaaGreatDoorGbL
import Derived.Test.YtgopfpjinohncaaGreatDoorGmL
import Derived.Test.YtgopfpjinohncaaGreatDoorGcL
import Derived.Test.YtgopfpjinohncaaGreatDoorKaL
import Derived.Lib.Join
import Derived.Lib.ItoaLen
import Derived.BigQuiet
import Derived.KernelRfl
import Derived.Laws.OwnMore
namespace Go.Proofs.YtgopfpjinohncaaGreatDoor
open Go.RowKit
set_option linter.unusedVariables false
def badTm (t:Trm):Bool:=if t.x=[] then !validB t.k t.n t.t else decide (t.vl≠⟨0,0,[]⟩)
def badNt (t:Trm):Bool:=decide (t.x≠[]) && !isNameB t.x
def badNa (a:Atm):Bool := !isNameB a.rel || a.ts.any badNt
def badNq (q:Qry):Bool:=(!isNameB q.name || q.head.any fun h => !isNameB h) || q.atoms.any badNa
def wideA (a:Atm):Bool:=decide (5<a.ts.length)
def chkQ (q:Qry):Int :=
 if badNq q=true then 72 else if (q.atoms.any fun a=>a.ts.any badTm)=true then 21 else if q.atoms.length=0∨6<q.atoms.length then 90 else if q.atoms.any wideA=true then 91 else if 0<=dupI q.head then 92 else if 0<=lackI (qVars q.atoms) q.head then 93 else 0
def tmT (t:Trm):List UInt8:=if t.x=[] then showR t.k t.n t.t else t.x
def atT (a:Atm):List UInt8:=a.rel++40::(Lib.join (a.ts.map tmT) [44,32]++[41])
def qT (q:Qry):List UInt8:=q.name++40::(Lib.join (q.head.map id) [44,32]++41::32::58::45::32::Lib.join (q.atoms.map atT) [44,32])
def showQ (q:Qry):List UInt8:=if chkQ q=0 then qT q else []
def RangeQ (q:Qry):Prop:=∀ a∈q.atoms,∀ t∈a.ts,-9223372036854775808<=t.n/\t.n<=9223372036854775807
structure RightQ (q:Qry):Prop where
 name:isNameB q.name=true
 head:∀ h∈q.head,isNameB h=true
 rel:∀ a∈q.atoms,isNameB a.rel=true
 var:∀ a∈q.atoms,∀ t∈a.ts,t.x≠[]->isNameB t.x=true/\t.vl=⟨0,0,[]⟩
 lit:∀ a∈q.atoms,∀ t∈a.ts,t.x=[]->validB t.k t.n t.t=true
 some:q.atoms≠[]
 few:q.atoms.length<=6
 thin:∀ a∈q.atoms,a.ts.length<=5
 dup:¬ 0<=dupI q.head
 lack:¬ 0<=lackI (qVars q.atoms) q.head
theorem chkQ_right {q:Qry} (h:chkQ q=0):RightQ q:=by
 unfold chkQ at h
 split at h
 ·cases h
 rename_i h1
 split at h
 ·cases h
 rename_i h2
 split at h
 ·cases h
 rename_i h3
 split at h
 ·cases h
 rename_i h4
 split at h
 ·cases h
 rename_i h5
 split at h
 ·cases h
 rename_i h6
 have n1:badNq q=false:=by simpa using h1
 unfold badNq at n1
 rw[Bool.or_eq_false_iff,Bool.or_eq_false_iff] at n1
 obtain⟨⟨n2,n3⟩,n4⟩:=n1
 have t1:(q.atoms.any fun a=>a.ts.any badTm)=false:=by simpa using h2
 have w1:q.atoms.any wideA=false:=by simpa using h4
 have hA:∀ a∈q.atoms,isNameB a.rel=true/\∀ t∈a.ts,badNt t=false:=fun a ha=>by
  have:=List.any_eq_false.1 n4 a ha
  have e:badNa a=false:=by simpa using this
  unfold badNa at e
  rw[Bool.or_eq_false_iff] at e
  refine⟨by simpa using e.1,fun t ht=>?_⟩
  have:=List.any_eq_false.1 e.2 t ht
  simpa using this
 have hT:∀ a∈q.atoms,∀ t∈a.ts,badTm t=false:=fun a ha t ht=>by
  have:=List.any_eq_false.1 t1 a ha
  have e:a.ts.any badTm=false:=by simpa using this
  have:=List.any_eq_false.1 e t ht
  simpa using this
 refine⟨by simpa using n2,fun h hh=>?_,fun a ha=>(hA a ha).1,fun a ha t ht hx=>⟨?_,?_⟩,fun a ha t ht hx=>?_,fun e=>h3 (.inl (by rw[e];rfl)),by omega,fun a ha=>?_,h5,h6⟩
 ·have:=List.any_eq_false.1 n3 h hh
  simpa using this
 ·have:=(hA a ha).2 t ht
  unfold badNt at this
  rw[Bool.and_eq_false_iff] at this
  rcases this with e | e
  ·simp at e;exact absurd e hx
  ·simpa using e
 ·have:=hT a ha t ht
  unfold badTm at this
  rw[if_neg hx] at this
  simpa using this
 ·have:=hT a ha t ht
  unfold badTm at this
  rw[if_pos hx] at this
  simpa using this
 ·have:=List.any_eq_false.1 w1 a ha
  unfold wideA at this
  simpa using this
theorem right_chkQ {q:Qry} (h:RightQ q):chkQ q=0:=by
 have hA:∀ a∈q.atoms,badNa a=false:=fun a ha=>by
  unfold badNa
  rw[h.rel a ha]
  simp only[Bool.not_true,Bool.false_or]
  refine List.any_eq_false.2 fun t ht=>?_
  unfold badNt
  by_cases hx:t.x=[]
  ·simp [hx]
  ·rw[(h.var a ha t ht hx).1]
   simp
 have hN:badNq q=false:=by
  unfold badNq
  rw[h.name]
  simp only[Bool.not_true,Bool.false_or,Bool.or_eq_false_iff]
  refine⟨List.any_eq_false.2 fun x hx=>by rw[h.head x hx];decide,List.any_eq_false.2 fun a ha=>by rw[hA a ha];decide⟩
 have hT:(q.atoms.any fun a=>a.ts.any badTm)=false:=List.any_eq_false.2 fun a ha=>by
  have:a.ts.any badTm=false:=List.any_eq_false.2 fun t ht=>by
   unfold badTm
   by_cases hx:t.x=[]
   ·rw[if_pos hx,h.lit a ha t ht hx]
    decide
   ·rw[if_neg hx,(h.var a ha t ht hx).2]
    decide
  rw[this]
  decide
 have hW:q.atoms.any wideA=false:=List.any_eq_false.2 fun a ha=>by
  unfold wideA
  have:=h.thin a ha
  simp
  omega
 have h0:¬ (q.atoms.length=0∨6<q.atoms.length):=by
  rintro (e | e)
  ·exact h.some (List.length_eq_zero_iff.1 e)
  ·have:=h.few
   omega
 unfold chkQ
 rw[if_neg (by rw[hN];decide),if_neg (by rw[hT];decide),if_neg h0,if_neg (by rw[hW];decide),if_neg h.dup,if_neg h.lack]
theorem nodup_len:∀ (l m:List (List UInt8)),l.Nodup->(∀ x∈l,x∈m)->l.length<=m.length
 | [],m,_,_=>Nat.zero_le _
 | x::l,m,hn,hs=>by
   have hx:=hs x List.mem_cons_self
   have h1:=List.nodup_cons.1 hn
   have h2:=nodup_len l (m.erase x) h1.2 (fun y hy=>(List.mem_erase_of_ne (fun (e:y=x)=>h1.1 (by rw[<-e];exact hy))).2 (hs y (List.mem_cons_of_mem _ hy)))
   have h3:=List.length_erase_of_mem hx
   have h4:=List.length_pos_of_mem hx
   rw[List.length_cons]
   omega
theorem dup_nodup:∀ (l seen:List (List UInt8)) (i:Nat),¬ 0<=dupG seen l i->l.Nodup/\∀ x∈l,x ∉ seen
 | [],seen,i,_=>⟨List.nodup_nil,by simp⟩
 | x::l,seen,i,h=>by
   unfold dupG at h
   split at h
   ·exact absurd (Int.natCast_nonneg i) h
   ·rename_i hx
    obtain⟨h1,h2⟩:=dup_nodup l _ _ h
    refine⟨List.nodup_cons.2 ⟨fun hm=>h2 x hm (by simp),h1⟩,fun y hy=>?_⟩
    rcases List.mem_cons.1 hy with rfl | hy
    ·exact hx
    ·exact fun hm=>h2 y hy (by simp [hm])
theorem lack_all {V l:List (List UInt8)} (h:¬ 0<=lackI V l):∀ s∈l,s∈V:=by
 intro s hs
 by_cases hm:s∈V
 ·exact hm
 ·exfalso
  apply h
  unfold lackI idxP
  cases hf:(l.map strC).findIdx? (fun x=>match x with
   | [.string b] => !decide (b.data.toList∈V)
   | _=>false) with
  | none =>
    rw[List.findIdx?_eq_none_iff] at hf
    have:=hf (strC s) (List.mem_map.2 ⟨s,hs,rfl⟩)
    simp [strC,hm] at this
  | some i=>exact Int.natCast_nonneg i
theorem qVars_small (q:Qry):(qVars q.atoms).length<=tsum q.atoms:=by
 have:∀ (al:List Atm) (o:List (List UInt8)),(al.foldl (fun o a=>(atomVars a.ts).foldl addN o) o).length<=o.length+tsum al:=by
  intro al
  induction al with
  | nil=>intro o;simp
  | cons a al ih =>
    intro o
    have h1:=ih ((atomVars a.ts).foldl addN o)
    have h2:=foldl_len addN addN_len o (atomVars a.ts)
    have h3:=atomVars_len a.ts
    simp only[List.foldl_cons,tsum,List.map_cons,List.sum_cons] at h1 ⊢
    omega
 have:=this q.atoms []
 simpa [qVars] using this
theorem tsum_thin:∀ (al:List Atm),(∀ a∈al,a.ts.length<=5)->tsum al<=5 * al.length
 | [],_=>by simp [tsum]
 | a::al,h=>by
   have h1:=tsum_thin al fun b hb=>h b (List.mem_cons_of_mem _ hb)
   have h2:=h a List.mem_cons_self
   simp only[tsum,List.map_cons,List.sum_cons,List.length_cons] at h1 ⊢
   omega
theorem RightQ.heads {q:Qry} (h:RightQ q):q.head.length<=30:=by
 have h1:=nodup_len q.head (qVars q.atoms) (dup_nodup q.head [] 0 h.dup).1 (lack_all h.lack)
 have h2:=qVars_small q
 have h3:=tsum_thin q.atoms h.thin
 have h4:=h.few
 omega
theorem join_len {b:Nat} (l:List (List UInt8)) (h:∀ x∈l,x.length<=b):(Lib.join l [44,32]).length<=(b+2) * l.length:=by
 cases l with
 | nil=>simp [Lib.join_nil]
 | cons x r =>
   have hl:∀ r:List (List UInt8),(∀ x∈r,x.length<=b)->Lib.lens r<=b * r.length:=by
    intro r
    induction r with
    | nil=>intro _;simp [Lib.lens]
    | cons y r ih =>
      intro hr
      have h3:=ih fun z hz=>hr z (List.mem_cons_of_mem _ hz)
      have h4:=hr y List.mem_cons_self
      simp only[Lib.lens,List.map_cons,List.sum_cons,List.length_cons,Nat.mul_succ] at h3 ⊢
      omega
   have h1:=hl r fun z hz=>h z (List.mem_cons_of_mem _ hz)
   have h2:=h x List.mem_cons_self
   rw[Lib.join_cons,List.length_append,Lib.joinTail_length]
   simp only[List.length_cons,List.length_nil,Nat.add_mul,Nat.mul_succ]
   omega
theorem showR_len {k n:Int} {t:List UInt8} (hv:validB k n t=true) (h0 : -9223372036854775808<=n) (h1:n<=9223372036854775807):(showR k n t).length<=258:=by
 unfold showR
 rw[if_pos hv]
 simp only[validB,decide_eq_true_eq] at hv
 rcases hv with ⟨rfl,rfl⟩ | ⟨rfl,rfl,ht⟩
 ·rw[if_pos rfl]
  rcases itoa_cases n with ⟨u,hu,e⟩ | ⟨u,_,hu,e⟩
  ·rw[e,Lib.decDigits_length]
   have:=Lib.nDigits_le20 u (by omega)
   omega
  ·rw[e,List.length_cons,Lib.decDigits_length]
   have:=Lib.nDigits_le20 u (by omega)
   omega
 ·rw[if_neg (by decide)]
  have:=showT_len t
  simp only[List.length_cons,List.length_append,List.length_nil]
  omega
theorem name_len16 {x:List UInt8} (h:isNameB x=true):1<=x.length/\x.length<=16:=by
 unfold isNameB at h
 simp only[decide_eq_true_eq] at h
 exact⟨List.length_pos_iff.2 h.1,h.2.2.2⟩
theorem tmT_len {q:Qry} (h:RightQ q) (hr:RangeQ q):∀ a∈q.atoms,∀ t∈a.ts,(tmT t).length<=258:=fun a ha t ht=>by
 unfold tmT
 by_cases hx:t.x=[]
 ·rw[if_pos hx]
  exact showR_len (h.lit a ha t ht hx) (hr a ha t ht).1 (hr a ha t ht).2
 ·rw[if_neg hx]
  have:=name_len16 (h.var a ha t ht hx).1
  omega
theorem atT_len {q:Qry} (h:RightQ q) (hr:RangeQ q):∀ a∈q.atoms,(Lib.join (a.ts.map tmT) [44,32]).length<=1300/\(atT a).length<=1318:=fun a ha=>by
 have h1:=join_len (b:=258) (a.ts.map tmT) (fun x hx=>by
  obtain⟨t,ht,rfl⟩:=List.mem_map.1 hx
  exact tmT_len h hr a ha t ht)
 have h2:=h.thin a ha
 have h3:=name_len16 (h.rel a ha)
 rw[List.length_map] at h1
 have h4:(Lib.join (a.ts.map tmT) [44,32]).length<=1300:=by omega
 refine⟨h4,?_⟩
 unfold atT
 simp only[List.length_append,List.length_cons,List.length_nil]
 omega
theorem qT_len {q:Qry} (h:RightQ q) (hr:RangeQ q):1<=(qT q).length/\(qT q).length<=16384/\(Lib.join (q.head.map id) [44,32]).length<=540/\(Lib.join (q.atoms.map atT) [44,32]).length<=7920:=by
 have h1:=join_len (b:=1318) (q.atoms.map atT) (fun x hx=>by
  obtain⟨a,ha,rfl⟩:=List.mem_map.1 hx
  exact (atT_len h hr a ha).2)
 have h2:=join_len (b:=16) (q.head.map id) (fun x hx=>by
  obtain⟨a,ha,rfl⟩:=List.mem_map.1 hx
  exact (name_len16 (h.head a ha)).2)
 have h3:=h.heads
 have h4:=h.few
 have h5:=name_len16 h.name
 rw[List.length_map] at h1 h2
 have h6:(Lib.join (q.head.map id) [44,32]).length<=540:=by omega
 have h7:(Lib.join (q.atoms.map atT) [44,32]).length<=7920:=by omega
 unfold qT
 simp only[List.length_append,List.length_cons]
 exact⟨by omega,by omega,h6,h7⟩
structure Chg where
 add:Bool
 rel:List UInt8
 row:List Vl
deriving DecidableEq
def ChgC (w:World) (cells:List Value) (c:Chg):Prop:=∃ rv,cells=[.bool c.add,.string ⟨c.rel.toArray⟩,rv]/\RowAt w rv 3 (c.row.map Vl.cells)/\c.row.length<=4398046511104
def ChgsAt (w:World) (v:Value) (l:List Chg):Prop:=∃ rows,RowAt w v 3 rows/\All2 (ChgC w) rows l
theorem ChgC.keep {w w':World} {row:List Value} {a:Chg} (h:ChgC w row a) (hb:Below w.heap.size w w'):ChgC w' row a:=by
 obtain⟨rv,rfl,h2,h3⟩:=h
 exact⟨rv,rfl,h2.keep hb,h3⟩
theorem ChgsAt.keep {w w':World} {v:Value} {l:List Chg} (h:ChgsAt w v l) (hb:Below w.heap.size w w'):ChgsAt w' v l:=by
 obtain⟨rows,h1,h2⟩:=h
 exact⟨rows,h1.keep hb,h2.mono fun b a hh=>hh.keep hb⟩
theorem ChgsAt.form {w:World} {v:Value} {l:List Chg} (h:ChgsAt w v l):∃ (ad:Option Addr) (cap:Nat),v=.slice ad l.length cap/\l.length<=cap/\cap<=maxLen:=by
 obtain⟨rows,h1,h2⟩:=h
 obtain⟨ad,cap,hv,h3,h4⟩:=h1.form
 rw[h2.length] at hv h3
 exact⟨ad,cap,hv,h3,h4⟩
theorem ChgsAt.get {w:World} {v:Value} {l:List Chg} (h:ChgsAt w v l) {i:Nat} {a:Chg} (hi:l[i]? = some a):∃ (b off cap:Nat) (rv:Value),v=.slice (some ⟨b,off,none⟩) l.length cap/\l.length<=cap/\cap<=maxLen/\b<w.heap.size /\
 w.cell? ⟨b,off+i * 3,none⟩=some (.bool a.add)/\w.cell? ⟨b,off+i * 3+1,none⟩=some (.string ⟨a.rel.toArray⟩)/\w.cell? ⟨b,off+i * 3+2,none⟩=some rv/\RowAt w rv 3 (a.row.map Vl.cells)/\a.row.length<=4398046511104:=by
 obtain⟨rows,h1,h2⟩:=h
 obtain⟨row,hr,rv,rfl,h3,h4⟩:=h2.get hi
 obtain⟨b,off,cap,hv,h5,h6,h7,h8⟩:=h1.get hr
 rw[h2.length] at hv h5
 exact⟨b,off,cap,rv,hv,h5,h6,h7,h8 0 _ rfl,h8 1 _ rfl,h8 2 _ rfl,h3,h4⟩
theorem ChgsAt.len {w:World} {v:Value} {l:List Chg} (h:ChgsAt w v l):l.length<=8796093022208:=by
 obtain⟨rows,h1,h2⟩:=h
 rw[<-h2.length]
 exact h1.len
def ChgO (B:Nat) (w:World) (row:List Value) (c:Chg):Prop:=∃ rv,row=[.bool c.add,.string ⟨c.rel.toArray⟩,rv]/\w.ownsRow B 111 3 rv c.row.length (c.row.map Vl.cells).flatten
def ChgsOwn (B:Nat) (w:World) (v:Value) (l:List Chg):Prop :=
 ∃ rows:List (List Value),w.ownsRow B 68 3 v l.length rows.flatten/\All2 (ChgO B w) rows l
theorem ChgO.mt {B B':Nat} {w w':World} {row:List Value} {a:Chg} {Ts:List TypeId} (h:ChgO B w row a) (hm:MT B' Ts w w') (ht:111 ∉ Ts):ChgO B w' row a:=by
 obtain⟨rv,rfl,h2⟩:=h
 exact⟨rv,rfl,hm.ownsRow h2 ht⟩
theorem ChgO.low {B B':Nat} {w:World} {row:List Value} {a:Chg} (h:ChgO B w row a) (hb:B'<=B):ChgO B' w row a:=by
 obtain⟨rv,rfl,h2⟩:=h
 exact⟨rv,rfl,World.ownsRow.low h2 hb⟩
theorem ChgsOwn.low {B B':Nat} {w:World} {v:Value} {l:List Chg} (h:ChgsOwn B w v l) (hb:B'<=B):ChgsOwn B' w v l:=by
 obtain⟨rows,h1,h2⟩:=h
 exact⟨rows,World.ownsRow.low h1 hb,h2.mono fun b x hh=>hh.low hb⟩
theorem ChgsOwn.mt {B B':Nat} {w w':World} {v:Value} {l:List Chg} {Ts:List TypeId} (h:ChgsOwn B w v l) (hm:MT B' Ts w w') (h1:68 ∉ Ts) (h2:111 ∉ Ts):ChgsOwn B w' v l:=by
 obtain⟨rows,h3,h4⟩:=h
 exact⟨rows,hm.ownsRow h3 h1,h4.mono fun b x hh=>hh.mt hm h2⟩
def badV (u:Vl):Bool := !validB u.k u.n u.t
def rowB (l:List Vl):Bool:=decide (l.length<=30) && !l.any badV
def showV (u:Vl):List UInt8:=showR u.k u.n u.t
def rowT0 (l:List Vl):List UInt8:=40::(Lib.join (l.map showV) [44,32]++[41])
def showRow (l:List Vl):List UInt8:=if rowB l=true then rowT0 l else []
def goodC (c:Chg):Bool:=isNameB c.rel && rowB c.row
def chgT (c:Chg):List UInt8:=(if c.add=true then 43 else 45)::(c.rel++rowT0 c.row)
def showBt (b:List Chg):List UInt8:=if b.all goodC=true then Lib.join (b.map chgT) [44,32] else []
def RangeV (u:Vl):Prop := -9223372036854775808<=u.n/\u.n<=9223372036854775807
theorem rowB_all {l:List Vl} (h:rowB l=true):l.length<=30/\∀ u∈l,validB u.k u.n u.t=true:=by
 unfold rowB at h
 rw[Bool.and_eq_true,decide_eq_true_eq] at h
 refine⟨h.1,fun u hu=>?_⟩
 have h2:l.any badV=false:=by simpa using h.2
 have:=List.any_eq_false.1 h2 u hu
 unfold badV at this
 simpa using this
theorem showV_len {l:List Vl} (h:rowB l=true) (hr:∀ u∈l,RangeV u):∀ u∈l,(showV u).length<=258:=fun u hu=>showR_len ((rowB_all h).2 u hu) (hr u hu).1 (hr u hu).2
theorem rowT_size {l:List Vl} (h:rowB l=true) (hr:∀ u∈l,RangeV u):(Lib.join (l.map showV) [44,32]).length<=7800/\(rowT0 l).length<=7802:=by
 have h1:=join_len (b:=258) (l.map showV) (fun x hx=>by
  obtain⟨u,hu,rfl⟩:=List.mem_map.1 hx
  exact showV_len h hr u hu)
 have h2:=(rowB_all h).1
 rw[List.length_map] at h1
 have h3:(Lib.join (l.map showV) [44,32]).length<=7800:=by omega
 refine⟨h3,?_⟩
 unfold rowT0
 simp only[List.length_cons,List.length_append,List.length_nil]
 omega
abbrev ChP:=Chg × Int
abbrev sgnX:List (List UInt8):=[[43],[45]]
def chgOf (s t:Tok) (l:List Vl):ChP:=(⟨decide (s.x=[43]),t.x,l⟩,s.p)
def overP (l:List ChP):Int:=match l[256]? with
 | some z=>z.2
 | none => -1
theorem overB_snoc (l:List ChP) (z:ChP):overP (l++[z])=if l.length=256 then z.2 else overP l:=by
 unfold overP
 by_cases h:l.length=256
 ·rw[if_pos h,List.getElem?_append_right (by omega),h]
  rfl
 ·rw[if_neg h]
  by_cases h2:256<l.length
  ·rw[List.getElem?_append_left h2]
  ·rw[List.getElem?_eq_none (by simp;omega),List.getElem?_eq_none (by omega)]
theorem overB_few {l:List ChP} (h:l.length<=256):overP l = -1:=by
 unfold overP
 rw[List.getElem?_eq_none h]
end Go.Proofs.YtgopfpjinohncaaGreatDoor
