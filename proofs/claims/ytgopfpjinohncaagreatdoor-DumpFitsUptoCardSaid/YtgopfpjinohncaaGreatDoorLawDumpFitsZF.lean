/- DumpFits: -/
import Derived.Test.YtgopfpjinohncaaGreatDoorFdaZF
set_option maxRecDepth 100000
set_option linter.unusedVariables false
namespace Go.Proofs.YtgopfpjinohncaaGreatDoor.dumpFits
open Go.Proofs.Tryz
open Go.ChangeShapes Go.WideShapes Go.ChangeAt Go.RowKit
open Go.ChangeMaps (open_string shut_string)
theorem D1 (os:Os) (started:os.Started) (H:Type) (enc:TypeId × Value->H) (F:Stop.Interp) :
 ReturnsInHanded {} Tryz.checked os 6 .any (fun w args=>((Rows.OpenSpec.upto Rows.dumpFitsSpec).pre enc prog Tryz.f6 [] false w args/\laidMetH prog td w)/\sizedMet enc prog Tryz.f6 (Rows.OpenSpec.upto Rows.dumpFitsSpec) false w args)
  (((Rows.OpenSpec.upto Rows.dumpFitsSpec).at F).post enc prog Tryz.f6 false true false false):=by
 refine eO (C:=Tryz.checked) (s:=(Rows.OpenSpec.upto Rows.dumpFitsSpec)) (k:=Rows.uptoSmall) rfl (X:=fun w _=>laidMetH prog td w) (fun _ _ _ hh h=>h.of_heap hh) Tryz.own started (by kernel_rfl) func6
  (qD (enc:=enc) (C:=Tryz.checked) (os:=os) (s:=(Rows.OpenSpec.upto Rows.dumpFitsSpec)) (k:=Rows.uptoSmall) rfl (X:=fun w _=>laidMetH prog td w) false (World.doorLaid prog 100 os) #[.slice none 0 0,.slice none 0 0,.slice none 0 0] 8 rfl (tO os _) (by kernel_rfl)
    (x:=([.nil,.nil,.nil],[],[])) (by kernel_rfl) rfl (by kernel_rfl) (by kernel_rfl) (xB os _)) ?_
 intro W base args ds gs before hval0 hW hcnd hk hz hL _
 have hval:∀ (j:Nat) t v,Tryz.f6.params[j]? = some t->args[j]? = some v->Value.okWide prog W .any base t v:=hval0
 have hW':=hW
 obtain⟨p,q,hA0,hV,rfl,hfz,hnd⟩:=hW
 have hA:DataW.TrodAll enc prog W 0 (fun _=>true) true Tryz.f6.params.toList args.toList ds p:=hA0
 rw[Tryz.params6] at hA hval hz
 have hAk:=hA
 obtain⟨v0,vs0,d0,ds0,p0,q0,hargs,rfl,rfl,h0,r0⟩:=trodAll_cons hA
 obtain⟨v1,vs1,d1,ds1,p1,q1,rfl,rfl,rfl,h1,r1⟩:=trodAll_cons r0
 obtain⟨v2,vs2,d2,ds2,p2,q2,rfl,rfl,rfl,h2,r2⟩:=trodAll_cons r1
 obtain⟨rfl,rfl,rfl⟩:=trodAll_nil r2
 obtain rfl:args=#[v0,v1,v2]:=by cases args;simp_all
 obtain⟨rfl,rfl⟩:=trodVars_none hV
 have hbk:=of_decide_eq_true hk
 simp only[List.cons_append,List.nil_append,Rows.uptoBulkAll] at hbk
 obtain⟨l0,ra0,rz0,rn0⟩:=xj (hval 0 22 v0 rfl rfl) h0 (Sz.ofEach hz (j:=0) rfl rfl)
 obtain⟨l1,ra1,rz1,rn1,rm1⟩:=Ao (hval 1 23 v1 rfl rfl) h1 (Sz.ofEach hz (j:=1) rfl rfl)
 obtain⟨l2,ra2,rz2,rn2⟩:=Bh (hval 2 24 v2 rfl rfl) h2 (Sz.ofEach hz (j:=2) rfl rfl)
 clear hA0 hval0
 refine (BH W v0 v1 v2 l0 l1 l2 ra0 ra1 ra2 rz0 (fun t ht=>(rz1 t ht).2) rz2 (by omega) (by omega) (by omega) (by omega) (oY hL)).mono fun e W' ⟨he,bel⟩=>?_
 subst he
 exact⟨_,rfl,_,_,_,[],_,[],hW',trodAll_mk1 (shut_bool underlying4 _),oW Tryz.laidOut bel _ _ _ _ (by kernel_rfl) hAk,rfl,bel.frame _,fun h=>by cases h⟩
theorem said:Rows.DumpFitsUptoSaid :=
 OpenClaim.holds_of_cond 6 Tryz.f6 rfl rfl rfl rfl rfl rfl rfl ⟨rfl,rfl,rfl,rfl,rfl⟩ rfl rfl rfl rfl rfl (by kernel_rfl) func6 DU
  (of_decide_eq_true (by kernel_rfl)) (by unfold Func.isWrapper;first | (rw[if_pos (by decide +kernel)];kernel_rfl) | (rw[if_neg (by decide +kernel)];exact⟨rfl,rfl⟩))
  (fun os started H enc _ F=>D1 os started H enc F)
theorem card:Rows.DumpFitsUptoCardSaid :=
 Claim7.holds_tied_plain_at .later [] _ _ _ _ said (fun _ h=>by cases h) (by kernel_rfl) (fun _ h=>by cases h) dumpFitsUpto_row_tie rfl ⟨rfl,rfl⟩ (by kernel_rfl) rfl plain (by kernel_rfl)
#print axioms card
