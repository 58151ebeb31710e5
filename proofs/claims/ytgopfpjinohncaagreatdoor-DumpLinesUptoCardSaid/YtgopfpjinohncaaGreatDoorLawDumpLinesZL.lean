/- DumpLines: the card, by its walk (printed by law.py). -/
import Derived.Test.YtgopfpjinohncaaGreatDoorGlL
import Derived.Test.YtgopfpjinohncaaGreatDoorRaL
import Derived.Test.YtgopfpjinohncaaGreatDoorDn9ZL
namespace Go.Proofs.YtgopfpjinohncaaGreatDoor.dumpLines
open Go.ChangeShapes Go.WideShapes Go.ChangeAt Go.RowKit
open Go.ChangeMaps (open_string shut_string)
set_option linter.unusedVariables false
set_option maxRecDepth 100000 in
theorem lifted (os:Os) (started:os.Started) (H:Type) (enc:TypeId × Value->H) (F:Stop.Interp) :
 ReturnsInHanded {} Tryz.checked os 3 .any (fun w args=>((Rows.OpenSpec.upto Rows.dumpLinesSpec).pre enc Tryz.prog Tryz.f3 [] false w args/\laidMetH Tryz.prog laid6 w)/\sizedMet enc Tryz.prog Tryz.f3 (Rows.OpenSpec.upto Rows.dumpLinesSpec) false w args)
  (((Rows.OpenSpec.upto Rows.dumpLinesSpec).at F).post enc Tryz.prog Tryz.f3 false true false false):=by
 refine returnsInHanded_of_cond_and (C:=Tryz.checked) (s:=(Rows.OpenSpec.upto Rows.dumpLinesSpec)) (k:=Rows.uptoSmall) rfl (X:=fun w _=>laidMetH Tryz.prog laid6 w) (fun _ _ _ hh h=>h.of_heap hh) Tryz.own started (by kernel_rfl) Tryz.func3
  (witness_cond (enc:=enc) (C:=Tryz.checked) (os:=os) (s:=(Rows.OpenSpec.upto Rows.dumpLinesSpec)) (k:=Rows.uptoSmall) rfl (X:=fun w _=>laidMetH Tryz.prog laid6 w) false (World.doorLaid Tryz.prog 100 os) #[.slice none 0 0,.slice none 0 0,.slice none 0 0] 8 rfl (door_shaped os _) (by kernel_rfl)
    (x:=([.nil,.nil,.nil],[],[])) (by kernel_rfl) rfl (by kernel_rfl) (by kernel_rfl) (door_met6 os _)) ?_
 intro W base args ds gs before hval0 hW hcnd hk hz hL _
 have hval:∀ (j:Nat) t v,Tryz.f3.params[j]? = some t->args[j]? = some v->Value.okWide Tryz.prog W .any base t v:=hval0
 have hW':=hW
 obtain⟨p,q,hA0,hV,rfl,hfz,hnd⟩:=hW
 have hA:DataW.TrodAll enc Tryz.prog W 0 (fun _=>true) true Tryz.f3.params.toList args.toList ds p:=hA0
 rw[Tryz.params3] at hA hval hz
 have hAk:=hA
 obtain⟨v0,vs0,d0,ds0,p0,q0,hargs,rfl,rfl,h0,r0⟩:=trodAll_cons hA
 obtain⟨v1,vs1,d1,ds1,p1,q1,rfl,rfl,rfl,h1,r1⟩:=trodAll_cons r0
 obtain⟨v2,vs2,d2,ds2,p2,q2,rfl,rfl,rfl,h2,r2⟩:=trodAll_cons r1
 obtain⟨rfl,rfl,rfl⟩:=trodAll_nil r2
 obtain rfl:args=#[v0,v1,v2]:=by cases args;simp_all
 obtain⟨rfl,rfl⟩:=trodVars_none hV
 have hbk:=of_decide_eq_true hk
 simp only[List.cons_append,List.nil_append,Rows.uptoBulkAll] at hbk
 obtain⟨l0,ra0,rz0,rn0⟩:=rels_argU (hval 0 22 v0 rfl rfl) h0 (Sz.ofEach hz (j:=0) rfl rfl)
 obtain⟨l1,ra1,rz1,rn1,rm1⟩:=tbls_arg (hval 1 23 v1 rfl rfl) h1 (Sz.ofEach hz (j:=1) rfl rfl)
 obtain⟨l2,ra2,rz2,rn2⟩:=qrys_arg (hval 2 24 v2 rfl rfl) h2 (Sz.ofEach hz (j:=2) rfl rfl)
 clear hA0 hval0
 refine (lines_law W v0 v1 v2 l0 l1 l2 ra0 ra1 ra2 rz0 (fun t ht=>(rz1 t ht).2) rz2 (by omega) (by omega) (by omega) (by omega) (globW_of_laid hL)).mono fun e W' ⟨he,bel⟩=>?_
 subst he
 exact⟨_,rfl,_,_,_,[],_,[],hW',trodAll_mk1 (shut_bool Tryz.underlying4 _),trodAll_below Tryz.laidOut bel _ _ _ _ (by kernel_rfl) hAk,rfl,bel.frame _,fun h=>by cases h⟩
theorem said:Rows.DumpLinesUptoSaid :=
 OpenClaim.holds_of_cond 3 Tryz.f3 rfl rfl rfl rfl rfl rfl rfl ⟨rfl,rfl,rfl,rfl,rfl⟩ rfl rfl rfl rfl rfl (by kernel_rfl) Tryz.func3 closed
  (of_decide_eq_true (by kernel_rfl)) (by unfold Func.isWrapper;first | (rw[if_pos (by decide +kernel)];kernel_rfl) | (rw[if_neg (by decide +kernel)];exact⟨rfl,rfl⟩))
  (fun os started H enc _ F=>lifted os started H enc F)
theorem card:Rows.DumpLinesUptoCardSaid :=
 Claim7.holds_tied_plain_at .later [] _ _ _ _ said (fun _ h=>by cases h) (by kernel_rfl) (fun _ h=>by cases h) dumpLinesUpto_row_tie rfl ⟨rfl,rfl⟩ (by kernel_rfl) rfl plain (by kernel_rfl)
#print axioms card
end Go.Proofs.YtgopfpjinohncaaGreatDoor.dumpLines
