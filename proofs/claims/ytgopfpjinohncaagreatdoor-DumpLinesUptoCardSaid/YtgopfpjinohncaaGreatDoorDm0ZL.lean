/- The dump, plainly: rows arranged, what is wrong in what is to be written, the lines; the lines don't hang on the tables' order. dump.fits, walked. -/
import Derived.Test.YtgopfpjinohncaaGreatDoorNaL
import Derived.Test.YtgopfpjinohncaaGreatDoorRxL
import Derived.Test.YtgopfpjinohncaaGreatDoorBaL
import Derived.Test.YtgopfpjinohncaaGreatDoorJyL
import Derived.Test.YtgopfpjinohncaaGreatDoorGcL
import Derived.Test.YtgopfpjinohncaaGreatDoorGaL
import Derived.Deep.RegionHeld3
import Derived.Deep.RegionWith
import Derived.BigQuiet
namespace Go.Proofs.YtgopfpjinohncaaGreatDoor
open Go.RowKit
set_option linter.unusedVariables false
structure Tbl where
 rel:List UInt8
 rows:List (List Vl)
def SRw (l:List (List Vl)):Prop:=l.Pairwise fun x y=>cmpRow x y<0
def insW (x:List Vl):List (List Vl)->List (List Vl)
 | []=>[x]
 | y::r=>if cmpRow x y<0 then x::y::r else if cmpRow x y=0 then y::r else y::insW x r
def arrP (l:List (List Vl)):List (List Vl):=l.foldr insW []
theorem mem_insW:∀ (r:List (List Vl)) (x z:List Vl),z∈insW x r ↔ z=x∨z∈r
 | [],x,z=>by simp [insW]
 | y::r,x,z=>by
   unfold insW
   by_cases h:cmpRow x y<0
   ·rw[if_pos h,List.mem_cons]
   ·rw[if_neg h]
    by_cases h0:cmpRow x y=0
    ·rw[if_pos h0,cmpRow_eq _ _ h0,List.mem_cons]
     exact⟨fun q=>.inr q,fun q=>q.elim .inl id⟩
    ·rw[if_neg h0,List.mem_cons,mem_insW r x z,List.mem_cons]
     exact⟨fun h=>by rcases h with h | h | h<;>simp [h],fun h=>by rcases h with h | h | h<;>simp [h]⟩
theorem insW_sorted:∀ (r:List (List Vl)) (x:List Vl),SRw r->SRw (insW x r)
 | [],x,_=>by simp [insW,SRw]
 | y::r,x,h=>by
   unfold insW
   have h1:=List.pairwise_cons.1 h
   by_cases hc:cmpRow x y<0
   ·rw[if_pos hc]
    refine List.pairwise_cons.2 ⟨fun z hz=>?_,h⟩
    rcases List.mem_cons.1 hz with rfl | hz
    ·exact hc
    ·exact cmpRow_trans _ _ _ hc (h1.1 z hz)
   ·rw[if_neg hc]
    by_cases h0:cmpRow x y=0
    ·rw[if_pos h0]
     exact h
    ·rw[if_neg h0]
     refine List.pairwise_cons.2 ⟨fun z hz=>?_,insW_sorted r x h1.2⟩
     rcases (mem_insW r x z).1 hz with rfl | hz
     ·rw[cmpRow_anti z y]
      omega
     ·exact h1.1 z hz
theorem arrP_sorted:∀ l:List (List Vl),SRw (arrP l)
 | []=>List.Pairwise.nil
 | x::l=>insW_sorted _ x (arrP_sorted l)
theorem mem_arrP {z:List Vl}:∀ {l:List (List Vl)},z∈arrP l ↔ z∈l
 | []=>Iff.rfl
 | x::l=>by
   show z∈insW x (arrP l) ↔ _
   rw[mem_insW,mem_arrP (l:=l),List.mem_cons]
theorem SRw.unique:∀ (a b:List (List Vl)),SRw a->SRw b->(∀ z,z∈a ↔ z∈b)->a=b
 | [],[],_,_,_=>rfl
 | [],y::m,_,_,h=>absurd ((h y).2 List.mem_cons_self) (by simp)
 | x::l,[],_,_,h=>absurd ((h x).1 List.mem_cons_self) (by simp)
 | x::l,y::m,ha,hb,h=>by
   have h1:=List.pairwise_cons.1 ha
   have h2:=List.pairwise_cons.1 hb
   have hxy:x=y:=by
    rcases List.mem_cons.1 ((h x).1 List.mem_cons_self) with e | e
    ·exact e
    ·rcases List.mem_cons.1 ((h y).2 List.mem_cons_self) with e' | e'
     ·exact e'.symm
     ·have q1:=h2.1 x e
      have q2:=h1.1 y e'
      rw[cmpRow_anti x y] at q1
      omega
   subst hxy
   rw[SRw.unique l m h1.2 h2.2 fun z=>⟨fun hz=>?_,fun hz=>?_⟩]
   ·rcases List.mem_cons.1 ((h z).1 (List.mem_cons_of_mem _ hz)) with e | e
    ·have:=h1.1 z hz
     rw[e,cmpRow_self] at this
     omega
    ·exact e
   ·rcases List.mem_cons.1 ((h z).2 (List.mem_cons_of_mem _ hz)) with e | e
    ·have:=h2.1 z hz
     rw[e,cmpRow_self] at this
     omega
    ·exact e
theorem arrP_eq {a l:List (List Vl)} (h:SRw a) (hm:∀ z,z∈a ↔ z∈l):a=arrP l :=
 SRw.unique _ _ h (arrP_sorted l) fun z=>(hm z).trans mem_arrP.symm
theorem insW_len:∀ (r:List (List Vl)) (x:List Vl),(insW x r).length<=r.length+1
 | [],x=>Nat.le_refl _
 | y::r,x=>by
   unfold insW
   have ih:=insW_len r x
   by_cases h:cmpRow x y<0
   ·rw[if_pos h];simp
   ·rw[if_neg h]
    by_cases h0:cmpRow x y=0
    ·rw[if_pos h0];simp
    ·rw[if_neg h0];simp only[List.length_cons];omega
theorem arrP_len:∀ l:List (List Vl),(arrP l).length<=l.length
 | []=>Nat.le_refl _
 | x::l=>by
   have h1:=insW_len (arrP l) x
   have h2:=arrP_len l
   show (insW x (arrP l)).length<=_
   simp only[List.length_cons]
   omega
def rowsIn (x:List UInt8):List Tbl->List (List Vl)
 | []=>[]
 | t::d=>(if t.rel=x then t.rows else [])++rowsIn x d
theorem mem_rowsIn {x:List UInt8} {z:List Vl}:∀ {d:List Tbl},z∈rowsIn x d ↔ ∃ t∈d,t.rel=x/\z∈t.rows
 | []=>by simp [rowsIn]
 | t::d=>by
   unfold rowsIn
   rw[List.mem_append,mem_rowsIn (d:=d)]
   by_cases h:t.rel=x
   ·rw[if_pos h]
    simp [h]
   ·rw[if_neg h]
    simp [h]
def chkRl (pre:List Rln):List Rln->Int
 | []=>0
 | r::rs=>if chkC r.name r.cols≠0 then chkC r.name r.cols else if pre.any (fun s=>s.name == r.name) then 85 else chkRl (pre++[r]) rs
def kindG (p:Vl × Col):Bool:=decide (p.1.k=p.2.k)
def fitsD (row:List Vl) (cols:List Col):Bool:=decide (row.length=cols.length) && (rowB row && (row.zip cols).all kindG)
def tbOk (d:List Rln) (t:Tbl):Int:=match d[(plI d t.rel).toNat]?,decide (0<=plI d t.rel) with
 | some r,true=>if t.rows.all (fun z=>fitsD z r.cols)=true then 0 else 87
 | _,_=>86
def chkTb (d:List Rln):List Tbl->Int
 | []=>0
 | t::ts=>if tbOk d t≠0 then tbOk d t else chkTb d ts
def chkQl (pre:List Qry):List Qry->Int
 | []=>0
 | q::qs=>if chkQ q≠0 then chkQ q else if pre.any (fun s=>s.name == q.name) then 85 else chkQl (pre++[q]) qs
def chkD (rels:List Rln) (data:List Tbl) (qs:List Qry):Int :=
 if chkRl [] rels≠0 then chkRl [] rels else if chkTb rels data≠0 then chkTb rels data else chkQl [] qs
def wordP (x:List UInt8) (r:List Vl):List UInt8:=43::(x++showRow r)
def goB (x:List UInt8):List UInt8->Nat->List (List Vl)->List (List UInt8)
 | line,n,[]=>if 0<n then [line] else []
 | line,n,r::rs =>
   if n=256∨(0<n/\16384<line.length+2+(wordP x r).length) then line::goB x ([98,97,116,99,104,32]++wordP x r) 1 rs
   else if n=0 then goB x (line++[98,97,116,99,104,32]++wordP x r) 1 rs
   else goB x (line++[44,32]++wordP x r) (n+1) rs
def linesP (rels:List Rln) (data:List Tbl) (qs:List Qry):List (List UInt8) :=
 rels.map (fun r=>textC { cmd0 with kind:=1,rel:=r })++rels.flatMap (fun r=>goB r.name [] 0 (arrP (rowsIn r.name data)))++qs.map (fun q=>textC { cmd0 with kind:=2,q:=q })
theorem if0 (a b:Int):(if a≠0 then a else b)=0 ↔ a=0/\b=0:=by
 by_cases h:a=0
 ·rw[if_neg (by simpa using h)]
  exact⟨fun q=>⟨h,q⟩,fun q=>q.2⟩
 ·rw[if_pos h]
  exact⟨fun q=>absurd q h,fun q=>q.1⟩
theorem fitsD_len {row:List Vl} {cols:List Col} (h:row.length≠cols.length):fitsD row cols=false:=by
 unfold fitsD
 rw[decide_eq_false h]
 rfl
theorem fitsD_bad {row:List Vl} {cols:List Col} (h:rowB row=false):fitsD row cols=false:=by
 unfold fitsD
 rw[h]
 simp
theorem fitsD_no {row:List Vl} {cols:List Col} {k:Nat} {u:Vl} {c:Col} (h1:row[k]? = some u) (h2:cols[k]? = some c) (h:u.k≠c.k):fitsD row cols=false:=by
 unfold fitsD
 have:(row.zip cols).all kindG=false:=by
  rw[List.all_eq_false]
  exact⟨(u,c),List.mem_of_getElem? (zip_get h1 h2),by simpa [kindG] using h⟩
 rw[this]
 simp
theorem fitsD_yes {row:List Vl} {cols:List Col} (h:row.length=cols.length) (hb:rowB row=true) (ha:∀ (k:Nat) (u:Vl) (c:Col),row[k]? = some u->cols[k]? = some c->u.k=c.k):fitsD row cols=true:=by
 unfold fitsD
 rw[decide_eq_true h,hb,Bool.true_and,Bool.true_and,List.all_eq_true]
 intro p hp
 obtain⟨k,hk⟩:=List.getElem?_of_mem hp
 obtain⟨u,c⟩:=p
 rw[List.getElem?_zip_eq_some] at hk
 simpa [kindG] using ha k u c hk.1 hk.2
set_option maxHeartbeats 8000000 in
set_option maxRecDepth 100000 in
theorem dfits_any (w:World) (rv cv:Value) (row:List Vl) (cols:List Col) (hrow:RowAt w rv 3 (row.map Vl.cells)) (hcols:ColsAt w cv cols) :
 Calls Tryz.prog 84 #[rv,cv] w fun e w'=>e=.returned (.bool (fitsD row cols))/\Below w.heap.size w w':=by
 have hnot:∀ (x:Bool) (w:World),(Op.unary .not (.bool x)).run Tryz.prog w=.ok (.bool (!x)) w:=fun _ _=>rfl
 have hvl:=rowValid_any w rv row hrow
 obtain⟨ra,rc,rfl,hrn,hrm⟩:=hrow.form
 obtain⟨ua,uc,rfl,hun,hum⟩:=hcols.form
 unfold maxLen at hrm hum
 rw[List.length_map] at *
 have HROW:=Lib.hid hrow
 have HC1:=Lib.hid hcols
 obtain⟨RES,hRES⟩:∃ RES,RES=fitsD row cols:=⟨_,rfl⟩
 rw[<-hRES]
 have HQ:=Lib.hid hRES
 obtain⟨vb,hvb⟩:∃ vb,rowB row=vb:=⟨_,rfl⟩
 rw[hvb] at hvl
 have HV:=Lib.hid hvl
 have HVB:=Lib.hid hvb
 clear hrow hcols hRES hvl hvb
 generalize hN:row.length=n at *
 generalize hM:cols.length=cn at *
 have HN:=Lib.hid hN
 have HM:=Lib.hid hM
 clear hN hM
 by_cases hnc:n=cn
 ·subst hnc
  have hnn:((n:Int) != (n:Int))=false:=by simp
  cases vb with
  | false =>
    have hno:fitsD row cols=false:=fitsD_bad HVB.out
    have hq:=HQ.out
    rw[hno] at hq
    subst hq
    clear hno
    go_enter Tryz.func84,Tryz.ntmps84
    go_wp2_with fail
    refine HV.out.mono ?_
    rintro e w1 ⟨rfl,hb1⟩
    have HB1:=Lib.hid hb1
    clear hb1
    go_wp2_with fail
    go_ret
    exact⟨by first | rfl | simp,HB1.out⟩
  | true =>
    go_enter Tryz.func84,Tryz.ntmps84
    go_wp2_with fail
    refine HV.out.mono ?_
    rintro e w1 ⟨rfl,hb1⟩
    have HB1:=Lib.hid hb1
    clear hb1
    go_wp2_with fail
    go_loopw [19] (fun i wr=>∃ j:Nat,j<=n/\i=.int .i64 j/\Hid (∀ (q:Nat) (u:Vl) (c:Col),q<j->row[q]? = some u->cols[q]? = some c->u.k=c.k)/\Hid (Below w.heap.size w wr)) (fun i _=>n - (intOf i).toNat)
    case atStart=>exact⟨0,Nat.zero_le _,rfl,Lib.hid (fun q _ _ hq=>by omega),HB1⟩
    case round =>
     obtain⟨j,hj,rfl,HP,BW⟩:=hrel
     obtain⟨wo,rfl⟩:∃ wo:World,wo=wr:=⟨_,rfl⟩
     by_cases hlt:j<n
     ·obtain⟨uu,hu⟩:∃ uu,row[j]? = some uu:=⟨row[j]'(by rw[HN.out];exact hlt),List.getElem?_eq_getElem (by rw[HN.out];exact hlt)⟩
      obtain⟨c,hc⟩:∃ c,cols[j]? = some c:=⟨cols[j]'(by rw[HM.out];exact hlt),List.getElem?_eq_getElem (by rw[HM.out];exact hlt)⟩
      obtain⟨vb,vo,vcap,hv,_,_,hvl,hce⟩:=(HROW.out.keep BW.out).get (i:=j) (x:=uu.cells) (by simp [hu])
      simp only[List.length_map,HN.out,Value.slice.injEq,true_and] at hv
      obtain⟨rfl,rfl⟩:=hv
      have q0:=hce 0 _ rfl
      have q1:=hce 1 _ rfl
      have q2:=hce 2 _ rfl
      simp only[Nat.add_zero] at q0
      obtain⟨cb,co,ccap,hcv,_,_,hcl,k0,k1⟩:=(ColsAt.keep HC1.out BW.out).get hc
      simp only[HM.out,Value.slice.injEq,true_and] at hcv
      obtain⟨rfl,rfl⟩:=hcv
      have HU:=Lib.hid hu
      have HC:=Lib.hid hc
      have hdk:decide ((j:Int)<0)=false:=by simp
      have hdn:decide ((n:Int)<=(j:Int))=false:=by simp;omega
      obtain⟨WB,hWB⟩:∃ WB,wo.alloc (.cells #[.int .i64 uu.k,.int .i64 uu.n,.string ⟨uu.t.toArray⟩] 111)=WB:=⟨_,rfl⟩
      have hbk:Below wo.heap.size wo WB:=by rw[<-hWB];exact balloc (Below.refl _ _) _
      have hbb:Blk WB wo.heap.size 111 #[.int .i64 uu.k,.int .i64 uu.n,.string ⟨uu.t.toArray⟩]:=by rw[<-hWB];exact Blk.new _ _ _
      have hbz:wo.heap.size<=WB.heap.size:=hbk.size
      have b0:=hbb.cell 0
      have b1:=hbb.cell 1
      have b2:=hbb.cell 2
      have bl:=hbb.lt
      simp only[List.getElem?_toArray,List.getElem?_cons_zero,List.getElem?_cons_succ] at b0 b1 b2
      have k1b:=(hbk.cell (p:=⟨cb,co+j * 2+1,none⟩) hcl).trans k1
      have clb:cb<WB.heap.size:=Nat.lt_of_lt_of_le hcl hbz
      have HBK:=Lib.hid (BW.out.trans (hbk.mono BW.out.size))
      have HWB:=Lib.hid hWB
      clear hce hu hc hWB hbk hbb
      by_cases hkk:uu.k=c.k
      ·have hd:(uu.k != c.k)=false:=by simp [hkk]
       have HP2:Hid (∀ (q:Nat) (u:Vl) (c:Col),q<j+1->row[q]? = some u->cols[q]? = some c->u.k=c.k):=Lib.hid (fun q u' c' hq h1 h2=>by
        rcases Nat.lt_or_eq_of_le (Nat.le_of_lt_succ hq) with h | rfl
        ·exact HP.out q u' c' h h1 h2
        ·rw[HU.out] at h1
         rw[HC.out] at h2
         simp only[Option.some.injEq] at h1 h2
         subst h1 h2
         exact hkk)
       clear hkk
       go_upto_region 6 with fail
       rw[HWB.out]
       go_quiet (fail)
       go_wp2_with fail
       go_roundw
       case rel=>exact⟨j+1,by omega,by go_num,HP2,Lib.hid (HBK.out.trans (Below.mono (bdrewN (Below.refl _ _) _) HBK.out.size))⟩
       case measure=>simp [intOf];omega
      ·have hd:(uu.k != c.k)=true:=by simpa using hkk
       have hno:fitsD row cols=false:=fitsD_no HU.out HC.out hkk
       have hq:=HQ.out
       rw[hno] at hq
       subst hq
       clear hno hkk
       go_upto_region 6 with fail
       rw[HWB.out]
       go_quiet (fail)
       go_wp2_with fail
       go_ret
       exact⟨by first | rfl | simp,HBK.out.trans (Below.mono (bdrewN (Below.refl _ _) _) HBK.out.size)⟩
     ·obtain rfl:j=n:=by omega
      have hyes:fitsD row cols=true:=fitsD_yes (by rw[HN.out,HM.out]) HVB.out (fun q u c h1 h2=>HP.out q u c (by rw[<-HN.out];exact (List.getElem?_eq_some_iff.1 h1).1) h1 h2)
      have hq:=HQ.out
      rw[hyes] at hq
      subst hq
      clear hyes
      go_wp2_with fail
      go_ret
      exact⟨by first | rfl | simp,BW.out⟩
 ·have hnn:((n:Int) != (cn:Int))=true:=by
   simp only[bne_iff_ne,ne_eq]
   omega
  have hno:fitsD row cols=false:=fitsD_len (by rw[HN.out,HM.out];exact hnc)
  have hq:=HQ.out
  rw[hno] at hq
  subst hq
  clear hno
  go_enter Tryz.func84,Tryz.ntmps84
  go_wp2_with fail
  go_ret
  exact⟨by first | rfl | simp,Below.refl _ _⟩
end Go.Proofs.YtgopfpjinohncaaGreatDoor
