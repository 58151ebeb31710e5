/- copy into a row that was just made, whatever the elements' cells; make: no program in sight. One element of a row of the call's own, stored into; a row just made: no program in sight. Values and terms compared. What query.Match tells, plainly. query.Match, walked. osierref02.Copy, Same and osierref09.CopyAtom, walked. -/
import Derived.Test.YtamjadghncnbcaaGreatDoorGbW
import Derived.Test.YtamjadghncnbcaaGreatDoorLaW
import Derived.Test.YtamjadghncnbcaaGreatDoorGgW
import Derived.Laws.CopyOwn
import Derived.OwnWalk
import Derived.Laws.CopyRow
import Derived.Laws.MakeOwn
import Derived.Laws.StructEq
import Derived.Deep.QuietTactic
import Derived.BigQuiet
namespace Go.Proofs.YtamjadghncnbcaaGreatDoor
open Go.RowKit
set_option linter.unusedVariables false
variable {P : Program}
variable {P : Program}
structure Vl where
 k:Int
 n:Int
 t:List UInt8
deriving DecidableEq
def Vl.cells (v:Vl):List Value:=[.int .i64 v.k,.int .i64 v.n,.string ⟨v.t.toArray⟩]
def Trm.vl (t:Trm):Vl:=⟨t.k,t.n,t.t⟩
def f3 (f:Field):String × TypeId × Nat:=(f.name,f.type,f.offset)
def eqF (d:Nat) (xs ys:Array Value):List (String × TypeId × Nat)->Sem Bool
 | []=>pure true
 | f::fs =>
   if f.1 ≠ "_" then do
    let a <-part f.2.1 xs f.2.2
    let b <-part f.2.1 ys f.2.2
    let r <-Op.equalIn d f.2.1 a b
    if (!r)=true then pure false else eqF d xs ys fs
   else eqF d xs ys fs
theorem eqF_of (d:Nat) (xs ys:Array Value):∀ fs:List Field,Op.eqFields d xs ys fs=eqF d xs ys (fs.map f3)
 | []=>rfl
 | f::fs=>by
   have:=eqF_of d xs ys fs
   simp only[Op.eqFields,List.map_cons,eqF,f3,this]
set_option maxHeartbeats 1000000 in
theorem equal_value (d:Nat) (a b:Vl) (w:World):(Op.equalIn (d+2) 69 (.agg a.cells.toArray) (.agg b.cells.toArray)).run Tryz.prog w=.ok (decide (a=b)) w:=by
 have hf:(Tryz.prog.fieldsOf 69).toList.map f3=[("Kind",62,0),("Int",2,1),("Text",9,2)]:=by kernel_rfl
 have p1:∀ w,(isAgg 62).run Tryz.prog w=.ok false w:=fun _=>by kernel_rfl
 have p2:∀ w,(isAgg 2).run Tryz.prog w=.ok false w:=fun _=>by kernel_rfl
 have p3:∀ w,(isAgg 9).run Tryz.prog w=.ok false w:=fun _=>by kernel_rfl
 rw[run_equalIn_agg w (d+1) _ _ _ (by kernel_rfl) (by kernel_rfl),eqF_of,hf]
 have e1:=fun (x y:Int) (w:World)=>run_equalIn_int (P:=Tryz.prog) w d 62 .i64 .i64 x y Tryz.underlying62
 have e2:=fun (x y:Int) (w:World)=>run_equalIn_int (P:=Tryz.prog) w d 2 .i64 .i64 x y Tryz.underlying2
 have e3:=fun (x y:ByteArray) (w:World)=>run_equalIn_string (P:=Tryz.prog) w d 9 x y Tryz.underlying9
 obtain⟨k,n,t⟩:=a
 obtain⟨k',n',t'⟩:=b
 simp only[Vl.cells,eqF,part,Sem.run_bind,Sem.run_ite,p1,p2,p3,Result.andThen_ok]
 by_cases h1:k=k'<;>by_cases h2:n=n'<;>by_cases h3:t=t'<;>simp [h1,h2,h3,e1,e2,e3,Vl.mk.injEq]
theorem neq_value (a b:Vl) (w:World):(binOp .neq 69 (.agg a.cells.toArray) (.agg b.cells.toArray)).run Tryz.prog w=.ok (.bool (!decide (a=b))) w:=by
 rw[run_neq_struct,equal_value 9998]
 rfl
theorem Tryz.infoVal:(Tryz.prog.info? 69).map (fun i=>(i.zero,i.size,i.bytes))=some (some (.agg #[.int .i64 0,.int .i64 0,.string ⟨#[]⟩]),3,32):=by kernel_rfl
theorem map_flatV (l:List Vl):(l.map Vl.cells).flatten=l.flatMap Vl.cells:=by
 induction l with
 | nil=>rfl
 | cons a l ih=>simp [ih]
def vlB (k n:Int) (t:List UInt8) (k' n':Int) (t':List UInt8):Bool:=decide ((⟨k,n,t⟩:Vl)=⟨k',n',t'⟩)
theorem vl_len (vs:List Vl):∀ x∈vs.map Vl.cells,x.length=3:=by
 intro x hx
 simp at hx
 obtain⟨t,_,rfl⟩:=hx
 rfl
def sameV (a b:List Vl):Bool:=decide (a=b)
set_option maxHeartbeats 4000000 in
set_option maxRecDepth 100000 in
theorem sameRow_any (w:World) (va vb:Value) (a b:List Vl) (ha:RowAt w va 3 (a.map Vl.cells)) (hb:RowAt w vb 3 (b.map Vl.cells)) :
 Calls Tryz.prog 29 #[va,vb] w fun e w'=>e=.returned (.bool (sameV a b))/\Below w.heap.size w w':=by
 have hneq:∀ (k n k' n':Int) (t t':List UInt8) (w:World),(binOp .neq 69 (.agg #[.int .i64 k,.int .i64 n,.string ⟨t.toArray⟩]) (.agg #[.int .i64 k',.int .i64 n',.string ⟨t'.toArray⟩])).run Tryz.prog w=.ok (.bool (!vlB k n t k' n' t')) w:=fun k n k' n' t t' w=>neq_value ⟨k,n,t⟩ ⟨k',n',t'⟩ w
 obtain⟨aa,ac,rfl,hac,ham⟩:=ha.form
 obtain⟨ba,bc,rfl,hbc,hbm⟩:=hb.form
 have hla:=ha.len
 have hlb:=hb.len
 unfold maxLen at ham hbm
 have HA:=Lib.hid ha
 have HB:=Lib.hid hb
 simp only[List.length_map] at hac hbc hla hlb ⊢
 generalize hN:a.length=n at *
 generalize hM:b.length=m at *
 have HN:=Lib.hid hN
 have HM:=Lib.hid hM
 clear ha hb hN hM
 by_cases hnm:n=m
 ·subst hnm
  go_enter Tryz.func29,Tryz.ntmps29
  go_wp2_with fail
  go_loopw [5] (fun i wr=>∃ k:Nat,k<=n/\i=.int .i64 k/\Hid (∀ j,j<k->a[j]? = b[j]?)/\Hid (Below w.heap.size w wr)) (fun i _=>n - (intOf i).toNat)
  case atStart=>exact⟨0,Nat.zero_le _,rfl,Lib.hid (fun j hj=>by omega),Lib.hid (Below.refl _ _)⟩
  case round =>
   obtain⟨k,hk,rfl,HE,BW⟩:=hrel
   by_cases hlt:k<n
   ·obtain⟨t,ht⟩:∃ t,a[k]? = some t:=⟨a[k]'(by rw[HN.out];exact hlt),List.getElem?_eq_getElem (by rw[HN.out];exact hlt)⟩
    obtain⟨u,hu⟩:∃ u,b[k]? = some u:=⟨b[k]'(by rw[HM.out];exact hlt),List.getElem?_eq_getElem (by rw[HM.out];exact hlt)⟩
    obtain⟨g1,o1,c1,hv1,_,_,hgl1,k1⟩:=(HA.out.keep BW.out).get (i:=k) (x:=t.cells) (by simp [ht])
    obtain⟨g2,o2,c2,hv2,_,_,hgl2,k2⟩:=(HB.out.keep BW.out).get (i:=k) (x:=u.cells) (by simp [hu])
    simp only[List.length_map,HN.out,HM.out,Value.slice.injEq,true_and] at hv1 hv2
    obtain⟨rfl,rfl⟩:=hv1
    obtain⟨rfl,rfl⟩:=hv2
    have p0:=k1 0 _ rfl
    have p1:=k1 1 _ rfl
    have p2:=k1 2 _ rfl
    have r0:=k2 0 _ rfl
    have r1:=k2 1 _ rfl
    have r2:=k2 2 _ rfl
    simp only[Nat.add_zero] at p0 r0
    have hd:decide ((k:Int)<0)=false:=by simp
    have hd2:decide ((n:Int)<=(k:Int))=false:=by simp;omega
    have HT:=Lib.hid ht
    have HU:=Lib.hid hu
    clear k1 k2 ht hu
    by_cases hq:t=u
    ·have hvb:vlB t.k t.n t.t u.k u.n u.t=true:=decide_eq_true hq
     have HQ:=Lib.hid hq
     clear hq
     go_wp2_with fail
     go_quiet (fail)
     go_wp2_with fail
     go_roundw
     case rel =>
      refine⟨k+1,by omega,by go_num,Lib.hid ?_,Lib.hid (bdrewN BW.out _)⟩
      intro j hj
      rcases Nat.lt_or_eq_of_le (Nat.le_of_lt_succ hj) with h | rfl
      ·exact HE.out j h
      ·rw[HT.out,HU.out,HQ.out]
     case measure=>simp [intOf];omega
    ·have hvb:vlB t.k t.n t.t u.k u.n u.t=false:=decide_eq_false hq
     have hs:sameV a b=false:=by
      unfold sameV
      rw[decide_eq_false]
      intro e
      have:=HT.out
      rw[e,HU.out] at this
      simp at this
      exact hq this.symm
     have HS:=Lib.hid hs
     clear hq hs
     go_wp2_with fail
     go_quiet (fail)
     go_wp2_with fail
     go_ret
     exact⟨by rw[HS.out];rfl,bdrewN BW.out _⟩
   ·obtain rfl:k=n:=by omega
    have hs:sameV a b=true:=by
     unfold sameV
     rw[decide_eq_true]
     apply List.ext_getElem?
     intro j
     rcases Nat.lt_or_ge j k with h | h
     ·exact HE.out j h
     ·rw[List.getElem?_eq_none (by rw[HN.out];exact h),List.getElem?_eq_none (by rw[HM.out];exact h)]
    have HS:=Lib.hid hs
    clear hs
    go_wp2_with fail
    go_ret
    exact⟨by rw[HS.out];rfl,BW.out⟩
 ·have hs:sameV a b=false:=by
   unfold sameV
   rw[decide_eq_false]
   intro e
   rw[e,HM.out] at HN
   exact hnm HN.out.symm
  have hd:((n:Int) != (m:Int))=true:=by simpa using fun e=>hnm (by omega)
  have HS:=Lib.hid hs
  clear hs
  go_enter Tryz.func29,Tryz.ntmps29
  go_wp2_with fail
  go_ret
  exact⟨by rw[HS.out];rfl,Below.refl _ _⟩
end Go.Proofs.YtamjadghncnbcaaGreatDoor
