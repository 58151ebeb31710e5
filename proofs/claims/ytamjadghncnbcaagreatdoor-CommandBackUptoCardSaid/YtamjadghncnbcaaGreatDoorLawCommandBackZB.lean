/- CommandBack: the card, by its walk (printed by law.py). -/
import Derived.Test.YtamjadghncnbcaaGreatDoorGlB
import Derived.Test.YtamjadghncnbcaaGreatDoorLawWZB
import Derived.Test.YtamjadghncnbcaaGreatDoorBzB
namespace Go.Proofs.YtamjadghncnbcaaGreatDoor.commandBack
open Go.ChangeShapes Go.WideShapes Go.ChangeAt Go.RowKit
open Go.ChangeMaps (open_string shut_string)
set_option linter.unusedVariables false
set_option maxRecDepth 100000 in
theorem lifted (os:Os) (started:os.Started) (H:Type) (enc:TypeId × Value->H) (F:Stop.Interp) :
 ReturnsInHanded {} Tryz.checked os 6 .any (fun w args=>((Rows.OpenSpec.upto Rows.commandBackSpec).pre enc Tryz.prog Tryz.f6 [] false w args/\laidMetH Tryz.prog laid6 w)/\sizedMet enc Tryz.prog Tryz.f6 (Rows.OpenSpec.upto Rows.commandBackSpec) false w args)
  (((Rows.OpenSpec.upto Rows.commandBackSpec).at F).post enc Tryz.prog Tryz.f6 false true false false):=by
 refine returnsInHanded_of_cond_and (C:=Tryz.checked) (s:=(Rows.OpenSpec.upto Rows.commandBackSpec)) (k:=Rows.uptoSmall) rfl (X:=fun w _=>laidMetH Tryz.prog laid6 w) (fun _ _ _ hh h=>h.of_heap hh) Tryz.own started (by kernel_rfl) Tryz.func6
  (witness_cond (enc:=enc) (C:=Tryz.checked) (os:=os) (s:=(Rows.OpenSpec.upto Rows.commandBackSpec)) (k:=Rows.uptoSmall) rfl (X:=fun w _=>laidMetH Tryz.prog laid6 w) false (World.doorLaid Tryz.prog 100 os) #[.agg #[.int .i64 0,.string ByteArray.empty,.slice none 0 0,.string ByteArray.empty,.slice none 0 0,.slice none 0 0,.slice none 0 0,.string ByteArray.empty,.int .i64 0,.int .i64 0,.slice none 0 0]] 8 rfl (door_shaped os _) (by kernel_rfl)
    (x:=([.agg [.lit (.int .i64 0),.agg [.lit (.string []),.nil],.agg [.lit (.string []),.nil,.nil],.nil,.lit (.string []),.lit (.int .i64 0),.lit (.int .i64 0),.nil]],[],[])) (by kernel_rfl) rfl (by kernel_rfl) (by kernel_rfl) (door_met6 os _)) ?_
 intro W base args ds gs before hval0 hW hcnd hk hz hL _
 have hval:∀ (j:Nat) t v,Tryz.f6.params[j]? = some t->args[j]? = some v->Value.okWide Tryz.prog W .any base t v:=hval0
 have hW':=hW
 obtain⟨p,q,hA0,hV,rfl,hfz,hnd⟩:=hW
 have hA:DataW.TrodAll enc Tryz.prog W 0 (fun _=>true) true Tryz.f6.params.toList args.toList ds p:=hA0
 rw[Tryz.params6] at hA hval hz
 have hAk:=hA
 obtain⟨v0,vs0,d0,ds0,p0,q0,hargs,rfl,rfl,h0,r0⟩:=trodAll_cons hA
 obtain⟨rfl,rfl,rfl⟩:=trodAll_nil r0
 obtain rfl:args=#[v0]:=by cases args;simp_all
 obtain⟨rfl,rfl⟩:=trodVars_none hV
 have hbk:=of_decide_eq_true hk
 simp only[List.cons_append,List.nil_append,Rows.uptoBulkAll] at hbk
 obtain⟨cc0,c0,rfl,bc0⟩:=cmd_arg (hval 0 34 v0 rfl rfl) h0 (Sz.ofEach hz (j:=0) rfl rfl)
 clear hA0 hval0
 refine (cmdback_card cc0 c0 W bc0 (by omega) (globW_of_laid hL)).mono fun e W' ⟨he,bel⟩=>?_
 subst he
 exact⟨_,rfl,_,_,_,[],_,[],hW',trodAll_mk1 (shut_bool Tryz.underlying4 _),trodAll_below Tryz.laidOut bel _ _ _ _ (by kernel_rfl) hAk,rfl,bel.frame _,fun h=>by cases h⟩
theorem an {a b:Bool} (h:a=true) (k:b=true):(a && b)=true:=by rw[h,k];rfl
theorem ja:(Rows.commandBackUptoRow.wf (OpenSpec.ofChange (Rows.OpenSpec.upto Rows.commandBackSpec).bare) && laidOutB Tryz.pinned.checked.prog && mapsRowed Tryz.pinned.checked.prog && (Tryz.f6).params.all (Tryz.pinned.checked.prog.readableRec ·) && namedTie Tryz.pinned.checked.prog Rows.commandBackUptoRow.named ((Rows.OpenSpec.upto Rows.commandBackSpec).bare).vars && (Rows.commandBackUptoRow.stops == []) && (Tryz.pinned.checked.prog.stops == []) && (Rows.commandBackUptoRow.knobs == []) && (Tryz.pinned.checked.prog.stopKnobs == []))=true:=by kernel_rfl
theorem jb:(Rows.commandBackUptoRow.inPlace == Tryz.pinned.checked.prog.inPlace 6)=true:=by kernel_rfl
theorem jc:(Rows.commandBackUptoRow.unfollowed == Tryz.pinned.checked.prog.unfollowed 6)=true:=by kernel_rfl
theorem jd:(Rows.commandBackUptoRow.recurses == Tryz.pinned.checked.prog.recurses 6)=true:=by kernel_rfl
theorem je:(Rows.commandBackUptoRow.named == Tryz.pinned.checked.prog.varsNamed 6)=true:=by kernel_rfl
theorem closed:joinedFacts Tryz.pinned.checked.prog 6 Tryz.f6 (Rows.OpenSpec.upto Rows.commandBackSpec).bare Rows.commandBackUptoRow=true:=by
 unfold joinedFacts
 exact an (an (an (an (an (an (an (an (an (an (an (an (an (an (an (an (an (an (an (an (an (an (an ja jb) jc) jd) je) (by kernel_rfl)) (by kernel_rfl)) (by kernel_rfl)) (by kernel_rfl)) (by kernel_rfl)) (by kernel_rfl)) (by kernel_rfl)) (by kernel_rfl)) (by kernel_rfl)) (by kernel_rfl)) (by kernel_rfl)) (by kernel_rfl)) (by kernel_rfl)) (by kernel_rfl)) (by kernel_rfl)) (by kernel_rfl)) (by kernel_rfl)) (by kernel_rfl)) (by kernel_rfl)
theorem said:Rows.CommandBackUptoSaid :=
 OpenClaim.holds_of_cond 6 Tryz.f6 rfl rfl rfl rfl rfl rfl rfl ⟨rfl,rfl,rfl,rfl,rfl⟩ rfl rfl rfl rfl rfl (by kernel_rfl) Tryz.func6 closed
  (of_decide_eq_true (by kernel_rfl)) (by unfold Func.isWrapper;first | (rw[if_pos (by decide +kernel)];kernel_rfl) | (rw[if_neg (by decide +kernel)];exact⟨rfl,rfl⟩))
  (fun os started H enc _ F=>lifted os started H enc F)
theorem plain (f:FuncId) (fn:Func) (hf:Tryz.pinned.checked.prog.funcNamed "osier/osierlaw25.CommandBack" = some f) (hfn:Tryz.pinned.checked.prog.funcs[f]? = some fn) :
 true=Tryz.pinned.checked.prog.looks []/\∀ (j:Nat) t,fn.params[j]? = some t->Tryz.pinned.checked.prog.wantsStandIn t=false:=by
 obtain rfl:f=6:=Option.some.inj ((show Tryz.prog.funcNamed "osier/osierlaw25.CommandBack" = some 6 by kernel_rfl).symm.trans hf) |>.symm
 obtain rfl:fn=Tryz.f6:=(Option.some.inj (Tryz.func6.symm.trans hfn)).symm
 refine⟨by kernel_rfl,fun j t ht=>?_⟩
 rw[Tryz.params6] at ht
 have hm:t∈[34]:=by simpa using Array.mem_of_getElem? ht
 have hall:([34].all fun u => !Tryz.prog.wantsStandIn u)=true:=by kernel_rfl
 exact (show Tryz.prog.wantsStandIn t=false by simpa using List.all_eq_true.1 hall t hm)
theorem card:Rows.CommandBackUptoCardSaid :=
 Claim7.holds_tied_plain_at .later [] _ _ _ _ said (fun _ h=>by cases h) (by kernel_rfl) (fun _ h=>by cases h) commandBackUpto_row_tie rfl ⟨rfl,rfl⟩ (by kernel_rfl) rfl plain (by kernel_rfl)
#print axioms card
end Go.Proofs.YtamjadghncnbcaaGreatDoor.commandBack
