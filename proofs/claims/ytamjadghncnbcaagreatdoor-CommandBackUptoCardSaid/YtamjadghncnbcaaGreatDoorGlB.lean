/- The frame of a law's proof over listed variables where the arguments' bulk is bounded; a query that came in. A batch as an argument, opened. -/
import Derived.Test.YtamjadghncnbcaaGreatDoorGhB
import Derived.Test.YtamjadghncnbcaaGreatDoorBcB
import Derived.JoinedCond
import Derived.SizedLaws
namespace Go.Proofs.YtamjadghncnbcaaGreatDoor
open Go.ChangeShapes Go.WideShapes Go.ChangeAt Go.RowKit Go.Deep Go.Joins
set_option linter.unusedVariables false
section
variable {H : Type} {enc : TypeId × Value -> H}
theorem returnsInHanded_of_cond_and {a:Assume} {C:Checked} {os:Os} {f:FuncId} {fn:Func} {s:OpenSpec} {k:(H:Type)->List (DataW H)->Bool} (hk:s.cond=some k) {F:Stop.Interp} {conds:List PathCond} {apart fresh handsOn again:Bool} {X:World->Array Value->Prop}
 (hX:∀ (w w':World) (args:Array Value),w.heap=w'.heap->X w args->X w' args)
 (own:ownKnob C.prog.godebug=none) (started:os.Started) (noInit:C.prog.inits.idxOf? f=none) (hfn:C.prog.funcs[f]? = some fn)
 (witness:∃ (w:World) (tape:Tape) (i:Input),w.os=os/\(w.forCall tape i).Shaped C.prog/\i.vars=[]/\Input.okWide C.prog (w.forCall tape i) .any w.heap.size f i /\
   ((s.pre enc C.prog fn conds apart (w.forCall tape i).memory i.args/\X (w.forCall tape i).memory i.args)/\sizedMet enc C.prog fn s apart (w.forCall tape i).memory i.args)/\a.holds C.prog (lone (Frame.enter C.prog f i.args .normal) [] (w.forCall tape i)))
 (contract:∀ (W:World) (base:Nat) (args:Array Value) (ds gs:List (DataW H)) (before:List MemPlace),
   (∀ (j:Nat) t v,fn.params[j]? = some t->args[j]? = some v->Value.okWide C.prog W .any base t v) ->
   DataW.Whole enc C.prog fn.params.toList s.vars apart W args.toList ds gs before ->
   conds.all (PathCond.test C.prog ⟨fn.params.toList,ds,s.bare.plain.varTypes C.prog,gs⟩)=true->k H (ds++gs)=true ->
   (DataW.weightsEach C.prog (fn.params.toList++s.bare.plain.varTypes C.prog) (ds++gs)).all (· <= reachBytes)=true->X W args ->
   a.holds C.prog (lone (Frame.enter C.prog f args .normal) [] W) ->
   Calls C.prog f args W fun e W'=>∃ v,e=.returned v/\(s.at F).post enc C.prog fn apart fresh handsOn again W args v W') :
 ReturnsInHanded a C os f .any (fun w args=>(s.pre enc C.prog fn conds apart w args/\X w args)/\sizedMet enc C.prog fn s apart w args) ((s.at F).post enc C.prog fn apart fresh handsOn again):=by
 refine returnsInHanded_of_calls own started noInit witness ?_
 intro w tape i _ _ _ hok hpre hholds
 obtain⟨_,_,_,fn',hfn',_,_,_,_,hval⟩:=hok
 have e:fn'=fn:=Option.some.inj (hfn'.symm.trans hfn)
 subst e
 obtain⟨⟨hp,hx⟩,hz⟩:=hpre
 obtain⟨ds,gs,before,hw,hc,hkk⟩:=(OpenSpec.pre_some hk conds apart _ _).1 hp
 have hw':=DataW.Whole.of_heap (w':=w.forCall tape i) (by rfl) hw
 refine (contract (w.forCall tape i) w.heap.size i.args ds gs before hval hw' hc hkk (hz.weights hw) (hX _ _ _ (by rfl) hx) hholds).mono fun e W' ⟨v,he,hp⟩=>?_
 subst he
 exact ChangeSpec.post_blind hp
theorem witness_cond {C:Checked} {os:Os} {f:FuncId} {fn:Func} {s:OpenSpec} {k:(H:Type)->List (DataW H)->Bool} (hk:s.cond=some k) {conds:List PathCond} {apart:Bool} {X:World->Array Value->Prop} (modest:Bool) (w0:World) (args:Array Value) (fuel:Nat) (hos:w0.os=os)
 (hsh:(w0.forCall (fun _ _=>0) ⟨#[],args,[]⟩).Shaped C.prog)
 (hok:Input.okWideB C.prog (w0.forCall (fun _ _=>0) ⟨#[],args,[]⟩) f ⟨#[],args,[]⟩=true)
 {x:List (DataW H) × List (DataW H) × List MemPlace} (hx:DataW.whole enc C.prog (w0.forCall (fun _ _=>0) ⟨#[],args,[]⟩).memory fn.params.toList s.vars apart args.toList fuel=some x)
 (hconds:conds.all (PathCond.test C.prog ⟨fn.params.toList,x.1,s.bare.plain.varTypes C.prog,x.2.1⟩)=true) (hkk:k H (x.1++x.2.1)=true)
 (hsz:s.bare.sizedB enc C.prog fn apart (w0.forCall (fun _ _=>0) ⟨#[],args,[]⟩).memory args fuel=true)
 (hX:X (w0.forCall (fun _ _=>0) ⟨#[],args,[]⟩).memory args) :
 ∃ (w:World) (tape:Tape) (i:Input),w.os=os/\(w.forCall tape i).Shaped C.prog/\i.vars=[]/\Input.okWide C.prog (w.forCall tape i) .any w.heap.size f i /\
  ((s.pre enc C.prog fn conds apart (w.forCall tape i).memory i.args/\X (w.forCall tape i).memory i.args)/\sizedMet enc C.prog fn s apart (w.forCall tape i).memory i.args)/\({ modest:=modest }:Assume).holds C.prog (lone (Frame.enter C.prog f i.args .normal) [] (w.forCall tape i)) :=
 ⟨w0,fun _ _=>0,⟨#[],args,[]⟩,hos,hsh,(Input.okWide_of_okWideB (base:=0) hok).1,(Input.okWide_of_okWideB hok).2,⟨⟨(OpenSpec.pre_some hk conds apart _ _).2 ⟨x.1,x.2.1,x.2.2,DataW.Whole_of_whole hx,hconds,hkk⟩,hX⟩,sizedMet_of_sizedB hsz⟩,by
  simp only[Assume.holds]
  exact⟨by simp,by simp,fun _=>Modest.zero,by simp,by simp⟩⟩
theorem bulk_one (d:DataW H):1<=Rows.uptoBulk d:=by
 cases d with
 | lit l=>cases l<;>simp [Rows.uptoBulk]
 | nil=>simp [Rows.uptoBulk]
 | ptr d=>simp [Rows.uptoBulk]
 | slice elems spare=>simp [Rows.uptoBulk]
 | agg parts=>simp [Rows.uptoBulk]
 | iface t d=>simp [Rows.uptoBulk]
 | map entries=>simp [Rows.uptoBulk]
 | held h=>simp [Rows.uptoBulk]
theorem bulk_len (l:List (DataW H)):l.length<=Rows.uptoBulkAll l:=by
 induction l with
 | nil=>simp [Rows.uptoBulkAll]
 | cons x r ih=>have:=bulk_one x;simp only[Rows.uptoBulkAll,List.length_cons];omega
variable {w : World} {spare : Nat -> Bool} {held : Bool}
end
end Go.Proofs.YtamjadghncnbcaaGreatDoor
namespace Go.Proofs.YtamjadghncnbcaaGreatDoor
open Go.ChangeShapes Go.WideShapes Go.ChangeAt Go.RowKit Go.Deep
set_option linter.unusedVariables false
section
variable {H : Type} {enc : TypeId × Value -> H} {w : World} {spare : Nat -> Bool} {held : Bool}
set_option maxRecDepth 100000 in
theorem chg_open {n:Nat} {row:List Value} {d:DataW H} {Pl:List MemPlace} (h:DataW.trod enc Tryz.prog w 0 spare held n 51 row=some (d,Pl)) (hs:Sz Tryz.prog 51 d) :
 ∃ a:Chg,ChgC w row a/\(∀ u∈a.row,RangeV u)/\a.rel.length<=140737488351232:=by
 obtain⟨y0,y1,y2,m,hx,hl,h0,h1,h2⟩:=trod_struct3 Tryz.underlying51 h
 have hc:Tryz.prog.cellsOf 51=3:=by kernel_rfl
 have c0:Tryz.prog.cellsOf 4=1:=by kernel_rfl
 have c1:Tryz.prog.cellsOf 9=1:=by kernel_rfl
 have c2:Tryz.prog.cellsOf 32=1:=by kernel_rfl
 rw[hc] at hl
 simp only[Prod.mk.injEq] at hx
 rw[hx.1] at hs
 obtain⟨a,b,c,rfl⟩:=len3 hl
 ·simp only[c0,c1,c2,List.drop_zero,List.take_succ_cons,List.take_zero,List.drop_succ_cons] at h0 h1 h2
  obtain⟨ad,e0,f0⟩:=DataW.trod_bool Tryz.underlying4 h0
  obtain⟨s,e1,f1,_⟩:=DataW.trod_string Tryz.underlying9 h1
  simp only[List.cons.injEq,and_true] at e0 e1
  subst e0 e1
  have hsz:s.data.toList.length<=140737488351232:=by
   have h1':=(hs.field Tryz.underlying51 (j:=1) (u:=9) (d:=.lit (.string s.data.toList)) rfl (by rw[f1];rfl)) s.data.toList.length (by simp [DataW.weights])
   simpa [reachBytes] using h1'
  obtain⟨vs,hr,hn,hw⟩:=vals_open Tryz.underlying32 h2 (hs.field Tryz.underlying51 (j:=2) rfl rfl)
  exact⟨⟨ad,s.data.toList,vs⟩,⟨c,by simp,hr,hn⟩,hw,hsz⟩
end
end Go.Proofs.YtamjadghncnbcaaGreatDoor
