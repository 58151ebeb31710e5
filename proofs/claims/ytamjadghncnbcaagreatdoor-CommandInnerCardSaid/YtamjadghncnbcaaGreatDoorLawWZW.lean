/- The frame of a law's proof over the six listed variables of the command rows. -/
import Derived.Test.YtamjadghncnbcaaGreatDoorGhW
import Derived.Test.YtamjadghncnbcaaGreatDoorDaW
namespace Go.Proofs.YtamjadghncnbcaaGreatDoor
open Go.ChangeShapes Go.WideShapes Go.ChangeAt Go.RowKit Go.Joins
set_option linter.unusedVariables false
def laid6:List (String × DataW Unit):=laid5++[("osier/command.words",Rows.laid_osier_command_words)]
theorem laidVars_append {P:Program} {w:World}:∀ {a b:List (String × DataW Unit)} {ps:List MemPlace},DataW.LaidVars P w (a++b) ps->∃ p q,DataW.LaidVars P w a p/\DataW.LaidVars P w b q/\ps=p++q
 | [],b,ps,h=>⟨[],ps,rfl,h,rfl⟩
 | (n,d)::a,b,ps,h=>by
   obtain⟨g,t,cs,fuel,p,q,h1,h2,h3,h4,h5,rfl⟩:=h
   obtain⟨p2,q2,h6,h7,rfl⟩:=laidVars_append (a:=a) h5
   exact⟨MemPlace.row ⟨g,0,none⟩ cs.size++p++p2,q2,⟨g,t,cs,fuel,p,p2,h1,h2,h3,h4,h6,rfl⟩,h7,by simp [List.append_assoc]⟩
theorem laidMet_append {P:Program} {w:World} {a b:List (String × DataW Unit)} (h:laidMet P (a++b) w):laidMet P a w/\∃ q,DataW.LaidVars P w b q:=by
 obtain⟨ps,h1,h2,h3⟩:=h
 obtain⟨p,q,h4,h5,rfl⟩:=laidVars_append h1
 exact⟨⟨p,h4,(List.nodup_append.1 h2).1,fun b off hb=>h3 b off (List.mem_append_left _ hb)⟩,q,h5⟩
theorem cells_of_strs {H:Type} {enc:TypeId × Value->H} {P:Program} {w:World} {base:Nat} {sp:Nat->Bool} {held:Bool} {fuel:Nat} {t e:TypeId} {n:Nat} {cs:List Value} {zs:List (List UInt8)} {p:List MemPlace}
 (ht:P.underlying t=some (.array n e)) (he:P.underlying e=some .string) (hce:P.cellsOf e=1) (hct:P.cellsOf t=n)
 (h:DataW.trod enc P w base sp held fuel t cs=some (.agg (zs.map fun z=>.lit (.string z)),p)):cs=zs.map fun z=>Value.string ⟨z.toArray⟩:=by
 cases fuel with
 | zero=>simp [DataW.trod] at h
 | succ fuel =>
   simp only[DataW.trod,ht,hce,hct,Nat.mul_one] at h
   split at h
   ·rename_i hl
    obtain⟨xs,hm,hx⟩:=Option.map_eq_some_iff.1 h
    have hxs:xs.map (·.1)=zs.map fun z=>(DataW.lit (.string z):DataW H):=by
     have:=congrArg Prod.fst hx
     simpa using this
    have hxl:xs.length=n:=by simpa using Lib.mapM_length hm
    have hzl:zs.length=n:=by
     have:=congrArg List.length hxs
     simp at this
     omega
    apply List.ext_getElem?
    intro i
    by_cases hi:i<n
    ·obtain⟨b,hb,hf⟩:=Lib.mapM_at hm i i (by simp [hi])
     obtain⟨z,hc,rfl,_⟩:=DataW.trod_string he hf
     have h1:cs[i]? = some (.string z):=by
      have:=congrArg (·[0]?) hc
      simpa [List.getElem?_take,List.getElem?_drop] using this
     have h2:(xs.map (·.1))[i]? = some (DataW.lit (.string z.data.toList):DataW H):=by simp [hb]
     rw[hxs] at h2
     simp only[List.getElem?_map,Option.map_eq_some_iff,DataW.lit.injEq,Lit.string.injEq] at h2
     obtain⟨z',hz',hz2⟩:=h2
     rw[h1,List.getElem?_map,hz',hz2]
     simp
    ·rw[List.getElem?_eq_none (by omega),List.getElem?_eq_none (by simp;omega)]
   ·cases h
theorem gWrd:Tryz.prog.globalNamed "osier/command.words" = some 0:=by kernel_rfl
theorem tWrd:(Tryz.prog.globals[0]?).map (·.type)=some 117:=by kernel_rfl
theorem cWrd:Tryz.prog.cellsOf 117=19:=by kernel_rfl
theorem cStr1:Tryz.prog.cellsOf 9=1:=by kernel_rfl
theorem wordsA_eq:(wordsW.map fun z=>Value.string ⟨z.toArray⟩).toArray=wordsA:=rfl
theorem globW_of_laid {W:World} (h:laidMetH Tryz.prog laid6 W):GlobW W:=by
 rw[MakeChecks.laidMetH_plain _ _ _ (by kernel_rfl)] at h
 obtain⟨h1,q,h2⟩:=laidMet_append (a:=laid5) h
 refine⟨glob_of_laid (by rw[MakeChecks.laidMetH_plain _ _ _ (by kernel_rfl)];exact h1),?_⟩
 obtain⟨g,t,cs,fuel,p,q',hg,ht,hv,hd,_,_⟩:=h2
 obtain rfl:=Option.some.inj (gWrd.symm.trans hg)
 obtain rfl:=Option.some.inj (tWrd.symm.trans ht)
 have et:(Rows.laid_osier_command_words:DataW Unit)=.agg (wordsW.map fun z=>.lit (.string z)):=by kernel_rfl
 rw[et] at hd
 have hcs:=cells_of_strs Tryz.underlying117 Tryz.underlying9 cStr1 cWrd hd
 have hca:cs=wordsA:=by
  rw[<-wordsA_eq,<-hcs]
 subst hca
 unfold World.var? at hv
 simp only[gWrd,Option.bind_some] at hv
 split at hv
 ·rename_i cs' t' f' heq
  cases hv
  exact⟨t',f',heq⟩
 ·cases hv
set_option maxRecDepth 100000 in
theorem door_met6 (os:Os) (args:Array Value):laidMetH Tryz.prog laid6 ((World.doorLaid Tryz.prog 100 os).forCall (fun _ _=>0) ⟨#[],args,[]⟩).memory :=
 laidMetH_of_parts3 (fuel:=8) (laidMet_of_run' 8 (by kernel_rfl) (by kernel_rfl)) (by kernel_rfl) (by kernel_rfl)
end Go.Proofs.YtamjadghncnbcaaGreatDoor
