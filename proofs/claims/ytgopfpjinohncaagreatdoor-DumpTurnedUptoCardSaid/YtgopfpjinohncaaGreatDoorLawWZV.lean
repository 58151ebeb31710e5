/- The frame of a law's proof over the six listed variables of the command rows. slices.IndexFunc, ContainsFunc at osier/api.Term, walked, told by the place (printed by idxn.py). -/
import Derived.Test.YtgopfpjinohncaaGreatDoorGhV
import Derived.Test.YtgopfpjinohncaaGreatDoorDaV
import Derived.Test.YtgopfpjinohncaaGreatDoorGbV
import Derived.Shelf.Abstract
namespace Go.Proofs.YtgopfpjinohncaaGreatDoor
open Go.ChangeShapes Go.WideShapes Go.ChangeAt Go.RowKit Go.Joins
set_option linter.unusedVariables false
def laid6:List (String × DataW Unit):=laid5++[("osier/command.words",Rows.laid_osier_command_words)]
theorem laidVars_append {P:Program} {w:World}:∀ {a b:List (String × DataW Unit)} {ps:List MemPlace},DataW.LaidVars P w (a++b) ps->∃ p q,DataW.LaidVars P w a p/\DataW.LaidVars P w b q/\ps=p++q
 | [],b,ps,h=>⟨[],ps,rfl,h,rfl⟩
 | (n,d)::a,b,ps,h=>by
   obtain⟨g,t,cs,fuel,p,q,h1,h2,h3,h4,h5,rfl⟩:=h
   obtain⟨p2,q2,h6,h7,rfl⟩:=laidVars_append (a:=a) h5
   exact⟨MemPlace.row ⟨g,0,none⟩ cs.size++p++p2,q2,⟨g,t,cs,fuel,p,p2,h1,h2,h3,h4,h6,rfl⟩,h7,by simp [List.append_assoc]⟩
theorem laidMet_append {P:Program} {w:World} {a b:List (String × DataW Unit)} (h:laidMet P (a++b) w):laidMet P a w/\∃ q,DataW.LaidVars P w b q:=by
 obtain⟨ps,h1,h2,h3⟩:=h
 obtain⟨p,q,h4,h5,rfl⟩:=laidVars_append h1
 exact⟨⟨p,h4,(List.nodup_append.1 h2).1,fun b off hb=>h3 b off (List.mem_append_left _ hb)⟩,q,h5⟩
theorem cells_of_strs {H:Type} {enc:TypeId × Value->H} {P:Program} {w:World} {base:Nat} {sp:Nat->Bool} {held:Bool} {fuel:Nat} {t e:TypeId} {n:Nat} {cs:List Value} {zs:List (List UInt8)} {p:List MemPlace}
 (ht:P.underlying t=some (.array n e)) (he:P.underlying e=some .string) (hce:P.cellsOf e=1) (hct:P.cellsOf t=n)
 (h:DataW.trod enc P w base sp held fuel t cs=some (.agg (zs.map fun z=>.lit (.string z)),p)):cs=zs.map fun z=>Value.string ⟨z.toArray⟩:=by
 cases fuel with
 | zero=>simp [DataW.trod] at h
 | succ fuel =>
   simp only[DataW.trod,ht,hce,hct,Nat.mul_one] at h
   split at h
   ·rename_i hl
    obtain⟨xs,hm,hx⟩:=Option.map_eq_some_iff.1 h
    have hxs:xs.map (·.1)=zs.map fun z=>(DataW.lit (.string z):DataW H):=by
     have:=congrArg Prod.fst hx
     simpa using this
    have hxl:xs.length=n:=by simpa using Lib.mapM_length hm
    have hzl:zs.length=n:=by
     have:=congrArg List.length hxs
     simp at this
     omega
    apply List.ext_getElem?
    intro i
    by_cases hi:i<n
    ·obtain⟨b,hb,hf⟩:=Lib.mapM_at hm i i (by simp [hi])
     obtain⟨z,hc,rfl,_⟩:=DataW.trod_string he hf
     have h1:cs[i]? = some (.string z):=by
      have:=congrArg (·[0]?) hc
      simpa [List.getElem?_take,List.getElem?_drop] using this
     have h2:(xs.map (·.1))[i]? = some (DataW.lit (.string z.data.toList):DataW H):=by simp [hb]
     rw[hxs] at h2
     simp only[List.getElem?_map,Option.map_eq_some_iff,DataW.lit.injEq,Lit.string.injEq] at h2
     obtain⟨z',hz',hz2⟩:=h2
     rw[h1,List.getElem?_map,hz',hz2]
     simp
    ·rw[List.getElem?_eq_none (by omega),List.getElem?_eq_none (by simp;omega)]
   ·cases h
theorem gWrd:Tryz.prog.globalNamed "osier/command.words" = some 0:=by kernel_rfl
theorem tWrd:(Tryz.prog.globals[0]?).map (·.type)=some 138:=by kernel_rfl
theorem cWrd:Tryz.prog.cellsOf 138=19:=by kernel_rfl
theorem cStr1:Tryz.prog.cellsOf 9=1:=by kernel_rfl
theorem wordsA_eq:(wordsW.map fun z=>Value.string ⟨z.toArray⟩).toArray=wordsA:=rfl
theorem globW_of_laid {W:World} (h:laidMetH Tryz.prog laid6 W):GlobW W:=by
 rw[MakeChecks.laidMetH_plain _ _ _ (by kernel_rfl)] at h
 obtain⟨h1,q,h2⟩:=laidMet_append (a:=laid5) h
 refine⟨glob_of_laid (by rw[MakeChecks.laidMetH_plain _ _ _ (by kernel_rfl)];exact h1),?_⟩
 obtain⟨g,t,cs,fuel,p,q',hg,ht,hv,hd,_,_⟩:=h2
 obtain rfl:=Option.some.inj (gWrd.symm.trans hg)
 obtain rfl:=Option.some.inj (tWrd.symm.trans ht)
 have et:(Rows.laid_osier_command_words:DataW Unit)=.agg (wordsW.map fun z=>.lit (.string z)):=by kernel_rfl
 rw[et] at hd
 have hcs:=cells_of_strs Tryz.underlying138 Tryz.underlying9 cStr1 cWrd hd
 have hca:cs=wordsA:=by
  rw[<-wordsA_eq,<-hcs]
 subst hca
 unfold World.var? at hv
 simp only[gWrd,Option.bind_some] at hv
 split at hv
 ·rename_i cs' t' f' heq
  cases hv
  exact⟨t',f',heq⟩
 ·cases hv
set_option maxRecDepth 100000 in
theorem door_met6 (os:Os) (args:Array Value):laidMetH Tryz.prog laid6 ((World.doorLaid Tryz.prog 100 os).forCall (fun _ _=>0) ⟨#[],args,[]⟩).memory :=
 laidMetH_of_parts3 (fuel:=8) (laidMet_of_run' 8 (by kernel_rfl) (by kernel_rfl)) (by kernel_rfl) (by kernel_rfl)
end Go.Proofs.YtgopfpjinohncaaGreatDoor
namespace Go.Proofs.YtgopfpjinohncaaGreatDoor
open Go.RowKit
set_option linter.unusedVariables false
set_option maxHeartbeats 4000000 in
set_option maxRecDepth 100000 in
theorem indexN_Trm (g:Nat) (lb:Array Value) (eg:∀ args w,(callFunc g args).run Tryz.prog w=.ok (.enter g args) w) (p:Nat->Bool) (w:World) (v:Value) (xs:List (List Value)) (h:RowAt w v 4 xs) (hl:∀ x∈xs,x.length=4)
 (hf:∀ (W:World) (k:Nat) (x:List Value),Below w.heap.size w W->xs[k]? = some x->Calls Tryz.prog g (#[.agg x.toArray]++lb) W fun e W'=>e=.returned (.bool (p k))/\Below W.heap.size W W') :
 Calls Tryz.prog 216 #[v,.func (.func g) #[] lb] w fun e w'=>(∃ q:Int,e=.returned (.int .i64 q)/\decide (0<=q)=(List.range xs.length).any p)/\Below w.heap.size w w':=by
 obtain⟨ad,cap,rfl,hnc,hcm⟩:=h.form
 have hln:=h.len
 have HR:=Lib.hid h
 have HL:=Lib.hid hl
 have HF:=Lib.hid hf
 unfold maxLen at hcm
 generalize hn:xs.length=n at *
 have HN:=Lib.hid hn
 clear h hl hf hn
 go_enter Tryz.func216,Tryz.ntmps216
 go_wp2_with fail
 go_loopw [5,8] (fun _ i wr=>∃ k:Nat,k<=n/\i=.int .i64 k/\Hid (Below w.heap.size w wr)/\Hid (∀ j,j<k->p j=false)) (fun _ i _=>n - (intOf i).toNat)
 case atStart=>exact⟨0,Nat.zero_le _,rfl,Lib.hid (Below.refl _ _),Lib.hid (fun j hj=>by omega)⟩
 case round =>
  obtain⟨k,hk,rfl,HB,HP⟩:=hrel
  by_cases hlt:k<n
  ·obtain⟨x,hx⟩:∃ x,xs[k]? = some x:=⟨xs[k]'(by rw[HN.out];exact hlt),List.getElem?_eq_getElem (by rw[HN.out];exact hlt)⟩
   have hm:x∈xs:=List.mem_of_getElem? hx
   obtain⟨b,off,cap',hv,_,_,hbl,hce⟩:=(HR.out.keep HB.out).get hx
   rw[HN.out] at hv
   simp only[Value.slice.injEq,true_and] at hv
   obtain⟨rfl,rfl⟩:=hv
   obtain⟨e0,e1,e2,e3,rfl⟩:=len4 (HL.out x hm)
   have q0:=hce 0 e0 rfl
   have q1:=hce 1 e1 rfl
   have q2:=hce 2 e2 rfl
   have q3:=hce 3 e3 rfl
   simp only[Nat.add_zero] at q0 q1 q2 q3
   have hcall:=HF.out wr k _ HB.out hx
   clear hce hm hx
   cases hq:p k with
   | true =>
     rw[hq] at hcall
     have HC:=Lib.hid hcall
     have HQ:=Lib.hid hq
     clear hcall hq
     go_wp2_with fail
     refine HC.out.mono ?_
     rintro e w' ⟨rfl,hb'⟩
     have HB':=Lib.hid hb'
     clear hb'
     go_wp2_with fail
     go_ret
     refine⟨⟨k,rfl,?_⟩,HB.out.trans (HB'.out.mono HB.out.size)⟩
     rw[decide_eq_true (Int.natCast_nonneg k)]
     exact (List.any_eq_true.2 ⟨k,List.mem_range.2 hlt,HQ.out⟩).symm
   | false =>
     rw[hq] at hcall
     have HC:=Lib.hid hcall
     have HQ:=Lib.hid hq
     clear hcall hq
     go_wp2_with fail
     refine HC.out.mono ?_
     rintro e w' ⟨rfl,hb'⟩
     have HB':=Lib.hid hb'
     clear hb'
     go_wp2_with fail
     go_roundw
     case rel =>
      refine⟨k+1,by omega,by go_num,Lib.hid (HB.out.trans (HB'.out.mono HB.out.size)),Lib.hid (fun j hj=>?_)⟩
      rcases Nat.lt_or_ge j k with h1 | h1
      ·exact HP.out j h1
      ·obtain rfl:j=k:=by omega
       exact HQ.out
     case measure=>simp [intOf];omega
  ·obtain rfl:k=n:=by omega
   go_wp2_with fail
   go_ret
   refine⟨⟨-1,rfl,?_⟩,HB.out⟩
   rw[show decide ((0:Int) <= -1)=false from by decide]
   refine (List.any_eq_false.2 fun j hj=>?_).symm
   rw[HP.out j (List.mem_range.1 hj)]
   decide
set_option maxHeartbeats 4000000 in
set_option maxRecDepth 100000 in
theorem containsN_Trm (g:Nat) (lb:Array Value) (eg:∀ args w,(callFunc g args).run Tryz.prog w=.ok (.enter g args) w) (p:Nat->Bool) (w:World) (v:Value) (xs:List (List Value)) (h:RowAt w v 4 xs) (hl:∀ x∈xs,x.length=4)
 (hf:∀ (W:World) (k:Nat) (x:List Value),Below w.heap.size w W->xs[k]? = some x->Calls Tryz.prog g (#[.agg x.toArray]++lb) W fun e W'=>e=.returned (.bool (p k))/\Below W.heap.size W W') :
 Calls Tryz.prog 168 #[v,.func (.func g) #[] lb] w fun e w'=>e=.returned (.bool ((List.range xs.length).any p))/\Below w.heap.size w w':=by
 have HI:=Lib.hid (indexN_Trm g lb eg p w v xs h hl hf)
 clear h hl hf
 generalize (List.range xs.length).any p=R at *
 go_enter Tryz.func168,Tryz.ntmps168
 go_wp2_with fail
 refine HI.out.mono ?_
 rintro e w' ⟨⟨q,rfl,hq⟩,hb'⟩
 have HB':=Lib.hid hb'
 clear hb'
 go_wp2_with fail
 go_ret
 exact⟨by first | rfl | simp,HB'.out⟩
end Go.Proofs.YtgopfpjinohncaaGreatDoor
