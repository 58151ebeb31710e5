/- DumpTurned: the facts that tie its row to the program. -/
import Derived.Test.YtgopfpjinohncaaGreatDoorGhV
import Derived.Test.YtgopfpjinohncaaGreatDoorLawWZV
import Derived.Test.YtgopfpjinohncaaGreatDoorRaV
namespace Go.Proofs.YtgopfpjinohncaaGreatDoor.dumpTurned
open Go.ChangeShapes Go.WideShapes Go.ChangeAt Go.RowKit
open Go.ChangeMaps (open_string shut_string)
set_option linter.unusedVariables false
theorem an {a b:Bool} (h:a=true) (k:b=true):(a && b)=true:=by rw[h,k];rfl
theorem ja:(Rows.dumpTurnedUptoRow.wf (OpenSpec.ofChange (Rows.OpenSpec.upto Rows.dumpTurnedSpec).bare) && laidOutB Tryz.pinned.checked.prog && mapsRowed Tryz.pinned.checked.prog && (Tryz.f7).params.all (Tryz.pinned.checked.prog.readableRec ·) && namedTie Tryz.pinned.checked.prog Rows.dumpTurnedUptoRow.named ((Rows.OpenSpec.upto Rows.dumpTurnedSpec).bare).vars && (Rows.dumpTurnedUptoRow.stops == []) && (Tryz.pinned.checked.prog.stops == []) && (Rows.dumpTurnedUptoRow.knobs == []) && (Tryz.pinned.checked.prog.stopKnobs == []))=true:=by kernel_rfl
theorem jb:(Rows.dumpTurnedUptoRow.inPlace == Tryz.pinned.checked.prog.inPlace 7)=true:=by kernel_rfl
theorem jc:(Rows.dumpTurnedUptoRow.unfollowed == Tryz.pinned.checked.prog.unfollowed 7)=true:=by kernel_rfl
theorem jd:(Rows.dumpTurnedUptoRow.recurses == Tryz.pinned.checked.prog.recurses 7)=true:=by kernel_rfl
theorem je:(Rows.dumpTurnedUptoRow.named == Tryz.pinned.checked.prog.varsNamed 7)=true:=by kernel_rfl
theorem closed:joinedFacts Tryz.pinned.checked.prog 7 Tryz.f7 (Rows.OpenSpec.upto Rows.dumpTurnedSpec).bare Rows.dumpTurnedUptoRow=true:=by
 unfold joinedFacts
 exact an (an (an (an (an (an (an (an (an (an (an (an (an (an (an (an (an (an (an (an (an (an (an ja jb) jc) jd) je) (by kernel_rfl)) (by kernel_rfl)) (by kernel_rfl)) (by kernel_rfl)) (by kernel_rfl)) (by kernel_rfl)) (by kernel_rfl)) (by kernel_rfl)) (by kernel_rfl)) (by kernel_rfl)) (by kernel_rfl)) (by kernel_rfl)) (by kernel_rfl)) (by kernel_rfl)) (by kernel_rfl)) (by kernel_rfl)) (by kernel_rfl)) (by kernel_rfl)) (by kernel_rfl)
theorem plain (f:FuncId) (fn:Func) (hf:Tryz.pinned.checked.prog.funcNamed "osier/osierlaw26.DumpTurned" = some f) (hfn:Tryz.pinned.checked.prog.funcs[f]? = some fn) :
 true=Tryz.pinned.checked.prog.looks []/\∀ (j:Nat) t,fn.params[j]? = some t->Tryz.pinned.checked.prog.wantsStandIn t=false:=by
 obtain rfl:f=7:=Option.some.inj ((show Tryz.prog.funcNamed "osier/osierlaw26.DumpTurned" = some 7 by kernel_rfl).symm.trans hf) |>.symm
 obtain rfl:fn=Tryz.f7:=(Option.some.inj (Tryz.func7.symm.trans hfn)).symm
 refine⟨by kernel_rfl,fun j t ht=>?_⟩
 rw[Tryz.params7] at ht
 have hm:t∈[22,23,24]:=by simpa using Array.mem_of_getElem? ht
 have hall:([22,23,24].all fun u => !Tryz.prog.wantsStandIn u)=true:=by kernel_rfl
 exact (show Tryz.prog.wantsStandIn t=false by simpa using List.all_eq_true.1 hall t hm)
end Go.Proofs.YtgopfpjinohncaaGreatDoor.dumpTurned
