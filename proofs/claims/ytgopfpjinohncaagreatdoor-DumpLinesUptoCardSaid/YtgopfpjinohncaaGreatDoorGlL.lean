/- The frame of a law's proof over listed variables where the arguments' bulk is bounded; a query that came in. The frame of a law's proof over the six listed variables of the command rows. A relation as an argument, opened. A query as an argument, opened with the sizes of its texts. A query as an argument, opened with the sizes of its texts. DumpLines: the facts that tie its row to the program (prin -/
import Derived.Test.YtgopfpjinohncaaGreatDoorGhL
import Derived.Test.YtgopfpjinohncaaGreatDoorBaL
import Derived.Test.YtgopfpjinohncaaGreatDoorKaL
import Derived.Test.YtgopfpjinohncaaGreatDoorJyL
import Derived.JoinedCond
import Derived.SizedLaws
namespace Go.Proofs.YtgopfpjinohncaaGreatDoor
open Go.ChangeShapes Go.WideShapes Go.ChangeAt Go.RowKit Go.Deep Go.Joins
set_option linter.unusedVariables false
section
variable {H : Type} {enc : TypeId × Value -> H}
theorem returnsInHanded_of_cond_and {a:Assume} {C:Checked} {os:Os} {f:FuncId} {fn:Func} {s:OpenSpec} {k:(H:Type)->List (DataW H)->Bool} (hk:s.cond=some k) {F:Stop.Interp} {conds:List PathCond} {apart fresh handsOn again:Bool} {X:World->Array Value->Prop}
 (hX:∀ (w w':World) (args:Array Value),w.heap=w'.heap->X w args->X w' args)
 (own:ownKnob C.prog.godebug=none) (started:os.Started) (noInit:C.prog.inits.idxOf? f=none) (hfn:C.prog.funcs[f]? = some fn)
 (witness:∃ (w:World) (tape:Tape) (i:Input),w.os=os/\(w.forCall tape i).Shaped C.prog/\i.vars=[]/\Input.okWide C.prog (w.forCall tape i) .any w.heap.size f i /\
   ((s.pre enc C.prog fn conds apart (w.forCall tape i).memory i.args/\X (w.forCall tape i).memory i.args)/\sizedMet enc C.prog fn s apart (w.forCall tape i).memory i.args)/\a.holds C.prog (lone (Frame.enter C.prog f i.args .normal) [] (w.forCall tape i)))
 (contract:∀ (W:World) (base:Nat) (args:Array Value) (ds gs:List (DataW H)) (before:List MemPlace),
   (∀ (j:Nat) t v,fn.params[j]? = some t->args[j]? = some v->Value.okWide C.prog W .any base t v) ->
   DataW.Whole enc C.prog fn.params.toList s.vars apart W args.toList ds gs before ->
   conds.all (PathCond.test C.prog ⟨fn.params.toList,ds,s.bare.plain.varTypes C.prog,gs⟩)=true->k H (ds++gs)=true ->
   (DataW.weightsEach C.prog (fn.params.toList++s.bare.plain.varTypes C.prog) (ds++gs)).all (· <= reachBytes)=true->X W args ->
   a.holds C.prog (lone (Frame.enter C.prog f args .normal) [] W) ->
   Calls C.prog f args W fun e W'=>∃ v,e=.returned v/\(s.at F).post enc C.prog fn apart fresh handsOn again W args v W') :
 ReturnsInHanded a C os f .any (fun w args=>(s.pre enc C.prog fn conds apart w args/\X w args)/\sizedMet enc C.prog fn s apart w args) ((s.at F).post enc C.prog fn apart fresh handsOn again):=by
 refine returnsInHanded_of_calls own started noInit witness ?_
 intro w tape i _ _ _ hok hpre hholds
 obtain⟨_,_,_,fn',hfn',_,_,_,_,hval⟩:=hok
 have e:fn'=fn:=Option.some.inj (hfn'.symm.trans hfn)
 subst e
 obtain⟨⟨hp,hx⟩,hz⟩:=hpre
 obtain⟨ds,gs,before,hw,hc,hkk⟩:=(OpenSpec.pre_some hk conds apart _ _).1 hp
 have hw':=DataW.Whole.of_heap (w':=w.forCall tape i) (by rfl) hw
 refine (contract (w.forCall tape i) w.heap.size i.args ds gs before hval hw' hc hkk (hz.weights hw) (hX _ _ _ (by rfl) hx) hholds).mono fun e W' ⟨v,he,hp⟩=>?_
 subst he
 exact ChangeSpec.post_blind hp
theorem witness_cond {C:Checked} {os:Os} {f:FuncId} {fn:Func} {s:OpenSpec} {k:(H:Type)->List (DataW H)->Bool} (hk:s.cond=some k) {conds:List PathCond} {apart:Bool} {X:World->Array Value->Prop} (modest:Bool) (w0:World) (args:Array Value) (fuel:Nat) (hos:w0.os=os)
 (hsh:(w0.forCall (fun _ _=>0) ⟨#[],args,[]⟩).Shaped C.prog)
 (hok:Input.okWideB C.prog (w0.forCall (fun _ _=>0) ⟨#[],args,[]⟩) f ⟨#[],args,[]⟩=true)
 {x:List (DataW H) × List (DataW H) × List MemPlace} (hx:DataW.whole enc C.prog (w0.forCall (fun _ _=>0) ⟨#[],args,[]⟩).memory fn.params.toList s.vars apart args.toList fuel=some x)
 (hconds:conds.all (PathCond.test C.prog ⟨fn.params.toList,x.1,s.bare.plain.varTypes C.prog,x.2.1⟩)=true) (hkk:k H (x.1++x.2.1)=true)
 (hsz:s.bare.sizedB enc C.prog fn apart (w0.forCall (fun _ _=>0) ⟨#[],args,[]⟩).memory args fuel=true)
 (hX:X (w0.forCall (fun _ _=>0) ⟨#[],args,[]⟩).memory args) :
 ∃ (w:World) (tape:Tape) (i:Input),w.os=os/\(w.forCall tape i).Shaped C.prog/\i.vars=[]/\Input.okWide C.prog (w.forCall tape i) .any w.heap.size f i /\
  ((s.pre enc C.prog fn conds apart (w.forCall tape i).memory i.args/\X (w.forCall tape i).memory i.args)/\sizedMet enc C.prog fn s apart (w.forCall tape i).memory i.args)/\({ modest:=modest }:Assume).holds C.prog (lone (Frame.enter C.prog f i.args .normal) [] (w.forCall tape i)) :=
 ⟨w0,fun _ _=>0,⟨#[],args,[]⟩,hos,hsh,(Input.okWide_of_okWideB (base:=0) hok).1,(Input.okWide_of_okWideB hok).2,⟨⟨(OpenSpec.pre_some hk conds apart _ _).2 ⟨x.1,x.2.1,x.2.2,DataW.Whole_of_whole hx,hconds,hkk⟩,hX⟩,sizedMet_of_sizedB hsz⟩,by
  simp only[Assume.holds]
  exact⟨by simp,by simp,fun _=>Modest.zero,by simp,by simp⟩⟩
theorem bulk_one (d:DataW H):1<=Rows.uptoBulk d:=by
 cases d with
 | lit l=>cases l<;>simp [Rows.uptoBulk]
 | nil=>simp [Rows.uptoBulk]
 | ptr d=>simp [Rows.uptoBulk]
 | slice elems spare=>simp [Rows.uptoBulk]
 | agg parts=>simp [Rows.uptoBulk]
 | iface t d=>simp [Rows.uptoBulk]
 | map entries=>simp [Rows.uptoBulk]
 | held h=>simp [Rows.uptoBulk]
theorem bulk_len (l:List (DataW H)):l.length<=Rows.uptoBulkAll l:=by
 induction l with
 | nil=>simp [Rows.uptoBulkAll]
 | cons x r ih=>have:=bulk_one x;simp only[Rows.uptoBulkAll,List.length_cons];omega
variable {w : World} {spare : Nat -> Bool} {held : Bool}
end
end Go.Proofs.YtgopfpjinohncaaGreatDoor
namespace Go.Proofs.YtgopfpjinohncaaGreatDoor
open Go.ChangeShapes Go.WideShapes Go.ChangeAt Go.RowKit Go.Joins
set_option linter.unusedVariables false
def laid6:List (String × DataW Unit):=laid5++[("osier/command.words",Rows.laid_osier_command_words)]
theorem laidVars_append {P:Program} {w:World}:∀ {a b:List (String × DataW Unit)} {ps:List MemPlace},DataW.LaidVars P w (a++b) ps->∃ p q,DataW.LaidVars P w a p/\DataW.LaidVars P w b q/\ps=p++q
 | [],b,ps,h=>⟨[],ps,rfl,h,rfl⟩
 | (n,d)::a,b,ps,h=>by
   obtain⟨g,t,cs,fuel,p,q,h1,h2,h3,h4,h5,rfl⟩:=h
   obtain⟨p2,q2,h6,h7,rfl⟩:=laidVars_append (a:=a) h5
   exact⟨MemPlace.row ⟨g,0,none⟩ cs.size++p++p2,q2,⟨g,t,cs,fuel,p,p2,h1,h2,h3,h4,h6,rfl⟩,h7,by simp [List.append_assoc]⟩
theorem laidMet_append {P:Program} {w:World} {a b:List (String × DataW Unit)} (h:laidMet P (a++b) w):laidMet P a w/\∃ q,DataW.LaidVars P w b q:=by
 obtain⟨ps,h1,h2,h3⟩:=h
 obtain⟨p,q,h4,h5,rfl⟩:=laidVars_append h1
 exact⟨⟨p,h4,(List.nodup_append.1 h2).1,fun b off hb=>h3 b off (List.mem_append_left _ hb)⟩,q,h5⟩
theorem cells_of_strs {H:Type} {enc:TypeId × Value->H} {P:Program} {w:World} {base:Nat} {sp:Nat->Bool} {held:Bool} {fuel:Nat} {t e:TypeId} {n:Nat} {cs:List Value} {zs:List (List UInt8)} {p:List MemPlace}
 (ht:P.underlying t=some (.array n e)) (he:P.underlying e=some .string) (hce:P.cellsOf e=1) (hct:P.cellsOf t=n)
 (h:DataW.trod enc P w base sp held fuel t cs=some (.agg (zs.map fun z=>.lit (.string z)),p)):cs=zs.map fun z=>Value.string ⟨z.toArray⟩:=by
 cases fuel with
 | zero=>simp [DataW.trod] at h
 | succ fuel =>
   simp only[DataW.trod,ht,hce,hct,Nat.mul_one] at h
   split at h
   ·rename_i hl
    obtain⟨xs,hm,hx⟩:=Option.map_eq_some_iff.1 h
    have hxs:xs.map (·.1)=zs.map fun z=>(DataW.lit (.string z):DataW H):=by
     have:=congrArg Prod.fst hx
     simpa using this
    have hxl:xs.length=n:=by simpa using Lib.mapM_length hm
    have hzl:zs.length=n:=by
     have:=congrArg List.length hxs
     simp at this
     omega
    apply List.ext_getElem?
    intro i
    by_cases hi:i<n
    ·obtain⟨b,hb,hf⟩:=Lib.mapM_at hm i i (by simp [hi])
     obtain⟨z,hc,rfl,_⟩:=DataW.trod_string he hf
     have h1:cs[i]? = some (.string z):=by
      have:=congrArg (·[0]?) hc
      simpa [List.getElem?_take,List.getElem?_drop] using this
     have h2:(xs.map (·.1))[i]? = some (DataW.lit (.string z.data.toList):DataW H):=by simp [hb]
     rw[hxs] at h2
     simp only[List.getElem?_map,Option.map_eq_some_iff,DataW.lit.injEq,Lit.string.injEq] at h2
     obtain⟨z',hz',hz2⟩:=h2
     rw[h1,List.getElem?_map,hz',hz2]
     simp
    ·rw[List.getElem?_eq_none (by omega),List.getElem?_eq_none (by simp;omega)]
   ·cases h
theorem gWrd:Tryz.prog.globalNamed "osier/command.words" = some 0:=by kernel_rfl
theorem tWrd:(Tryz.prog.globals[0]?).map (·.type)=some 138:=by kernel_rfl
theorem cWrd:Tryz.prog.cellsOf 138=19:=by kernel_rfl
theorem cStr1:Tryz.prog.cellsOf 9=1:=by kernel_rfl
theorem wordsA_eq:(wordsW.map fun z=>Value.string ⟨z.toArray⟩).toArray=wordsA:=rfl
theorem globW_of_laid {W:World} (h:laidMetH Tryz.prog laid6 W):GlobW W:=by
 rw[MakeChecks.laidMetH_plain _ _ _ (by kernel_rfl)] at h
 obtain⟨h1,q,h2⟩:=laidMet_append (a:=laid5) h
 refine⟨glob_of_laid (by rw[MakeChecks.laidMetH_plain _ _ _ (by kernel_rfl)];exact h1),?_⟩
 obtain⟨g,t,cs,fuel,p,q',hg,ht,hv,hd,_,_⟩:=h2
 obtain rfl:=Option.some.inj (gWrd.symm.trans hg)
 obtain rfl:=Option.some.inj (tWrd.symm.trans ht)
 have et:(Rows.laid_osier_command_words:DataW Unit)=.agg (wordsW.map fun z=>.lit (.string z)):=by kernel_rfl
 rw[et] at hd
 have hcs:=cells_of_strs Tryz.underlying138 Tryz.underlying9 cStr1 cWrd hd
 have hca:cs=wordsA:=by
  rw[<-wordsA_eq,<-hcs]
 subst hca
 unfold World.var? at hv
 simp only[gWrd,Option.bind_some] at hv
 split at hv
 ·rename_i cs' t' f' heq
  cases hv
  exact⟨t',f',heq⟩
 ·cases hv
set_option maxRecDepth 100000 in
theorem door_met6 (os:Os) (args:Array Value):laidMetH Tryz.prog laid6 ((World.doorLaid Tryz.prog 100 os).forCall (fun _ _=>0) ⟨#[],args,[]⟩).memory :=
 laidMetH_of_parts3 (fuel:=8) (laidMet_of_run' 8 (by kernel_rfl) (by kernel_rfl)) (by kernel_rfl) (by kernel_rfl)
end Go.Proofs.YtgopfpjinohncaaGreatDoor
namespace Go.Proofs.YtgopfpjinohncaaGreatDoor
open Go.ChangeShapes Go.WideShapes Go.ChangeAt Go.RowKit Go.Deep
set_option linter.unusedVariables false
section
variable {H : Type} {enc : TypeId × Value -> H} {w : World} {spare : Nat -> Bool} {held : Bool}
set_option maxRecDepth 100000 in
theorem col_open {n:Nat} {row:List Value} {d:DataW H} {Pl:List MemPlace} (h:DataW.trod enc Tryz.prog w 0 spare held n 109 row=some (d,Pl)) :
 ∃ c:Col,row=c.cells/\d=.agg [.lit (.string c.x),.lit (.int .i64 c.k)]:=by
 obtain⟨y0,y1,m,hx,hl,h0,h1⟩:=trod_struct2 Tryz.underlying109 h
 have hc:Tryz.prog.cellsOf 109=2:=by kernel_rfl
 have c0:Tryz.prog.cellsOf 9=1:=by kernel_rfl
 have c1:Tryz.prog.cellsOf 107=1:=by kernel_rfl
 rw[hc] at hl
 obtain⟨a,b,rfl⟩:=len2 hl
 ·simp only[c0,c1,List.drop_zero,List.take_succ_cons,List.take_zero,List.drop_succ_cons] at h0 h1
  obtain⟨s,e0,f0,_⟩:=DataW.trod_string Tryz.underlying9 h0
  obtain⟨k,e1,f1,wq⟩:=DataW.trod_int Tryz.underlying107 h1
  simp only[List.cons.injEq,and_true] at e0 e1
  subst e0 e1
  refine⟨⟨s.data.toList,k⟩,by simp [Col.cells],?_⟩
  simp only[Prod.mk.injEq] at hx
  rw[hx.1,f0,f1]
theorem col_small {c:Col} {d:DataW H} (hd:d=.agg [.lit (.string c.x),.lit (.int .i64 c.k)]) (h:Sz Tryz.prog 109 d):c.x.length<=140737488351232:=by
 subst hd
 have h1:=(h.field Tryz.underlying109 (j:=0) (u:=9) (d:=.lit (.string c.x)) rfl rfl) c.x.length (by simp [DataW.weights])
 simpa [reachBytes] using h1
set_option maxRecDepth 100000 in
theorem cols_open {t:TypeId} {fuel:Nat} {v:Value} {x:DataW H × List MemPlace} (ht:Tryz.prog.underlying t=some (.slice 109)) (h:DataW.trod enc Tryz.prog w 0 spare held fuel t [v]=some x) (hs:Sz Tryz.prog t x.1) :
 ∃ cs:List Col,ColsAt w v cs/\cs.length<=5864062014634/\∀ c∈cs,c.x.length<=140737488351232:=by
 have hb:Tryz.prog.bytesOf 109=24:=by kernel_rfl
 obtain⟨rows,hr,hd⟩:=open_rows (sz:=2) ht (by kernel_rfl) (by decide) h (fun el sp e=>by
  have:=(e ▸ hs).len ht
  rw[hb] at this
  omega)
 rcases hd with ⟨rfl,_⟩ | ⟨el,sp,e,hl,hi⟩
 ·exact⟨[],hr,Nat.zero_le _,by simp⟩
 ·have hle:=(e ▸ hs).len ht
  rw[hb,hl] at hle
  obtain⟨m,hm⟩:=list_as (α := {u:Col // u.x.length<=140737488351232}) (fun u=>u.1.cells) rows (fun row hrow=>by
   obtain⟨i,hi'⟩:=List.getElem?_of_mem hrow
   obtain⟨_,n,d,Pl,h1,h2⟩:=hi i row hi'
   obtain⟨u,h3,h4⟩:=col_open h2
   exact⟨⟨u,col_small h4 ((e ▸ hs).elem ht (List.mem_of_getElem? h1))⟩,h3⟩)
  subst hm
  refine⟨m.map (·.1),by simpa [ColsAt,Function.comp_def] using hr,by simp at hle ⊢;omega,fun u hu=>?_⟩
  obtain⟨q,_,rfl⟩:=List.mem_map.1 hu
  exact q.2
end
end Go.Proofs.YtgopfpjinohncaaGreatDoor
namespace Go.Proofs.YtgopfpjinohncaaGreatDoor
open Go.ChangeShapes Go.WideShapes Go.ChangeAt Go.RowKit Go.Deep Go.Joins
set_option linter.unusedVariables false
section
variable {H : Type} {enc : TypeId × Value -> H} {w : World} {spare : Nat -> Bool} {held : Bool}
theorem lit_small {t:TypeId} {ds:List (DataW H)} {fs:Array Field} {s:List UInt8} (hu:Tryz.prog.underlying t=some (.struct fs)) (hf:(fs.toList.map (·.type))[0]? = some 9) (h0:ds[0]? = some (.lit (.string s))) (h:Sz Tryz.prog t (.agg ds)):s.length<=140737488351232:=by
 have h1:=(h.field hu (j:=0) hf h0) s.length (by simp [DataW.weights])
 simpa [reachBytes] using h1
def TrmS (u:Trm):Prop:=(-9223372036854775808<=u.n/\u.n<=9223372036854775807)/\u.x.length<=140737488351232
def AtmS (a:Atm):Prop:=a.rel.length<=140737488351232/\∀ u∈a.ts,TrmS u
set_option maxRecDepth 100000 in
theorem terms_open9 {t:TypeId} {fuel:Nat} {v:Value} {x:DataW H × List MemPlace} (ht:Tryz.prog.underlying t=some (.slice 113)) (h:DataW.trod enc Tryz.prog w 0 spare held fuel t [v]=some x) (hs:Sz Tryz.prog t x.1) :
 ∃ ts:List Trm,RowAt w v 4 (ts.map Trm.cells)/\ts.length<=2932031007317/\∀ u∈ts,TrmS u:=by
 have hb:Tryz.prog.bytesOf 113=48:=by kernel_rfl
 obtain⟨rows,hr,hd⟩:=open_rows (sz:=4) ht (by kernel_rfl) (by decide) h (fun el sp e=>by
  have:=(e ▸ hs).len ht
  rw[hb] at this
  omega)
 rcases hd with ⟨rfl,_⟩ | ⟨el,sp,e,hl,hi⟩
 ·exact⟨[],hr,Nat.zero_le _,by simp⟩
 ·have hle:=(e ▸ hs).len ht
  rw[hb,hl] at hle
  obtain⟨m,hm⟩:=list_as (α := {u:Trm // TrmS u}) (fun u=>u.1.cells) rows (fun row hrow=>by
   obtain⟨i,hi'⟩:=List.getElem?_of_mem hrow
   obtain⟨_,n,d,Pl,h1,h2⟩:=hi i row hi'
   obtain⟨u,h3,h4,h5⟩:=trm_open h2
   have h6:=(e ▸ hs).elem ht (List.mem_of_getElem? h1)
   rw[h5] at h6
   exact⟨⟨u,h4,lit_small Tryz.underlying113 rfl rfl h6⟩,h3⟩)
  subst hm
  refine⟨m.map (·.1),by simpa [Function.comp_def] using hr,by simp at hle ⊢;omega,fun u hu=>?_⟩
  obtain⟨q,_,rfl⟩:=List.mem_map.1 hu
  exact q.2
set_option maxRecDepth 100000 in
theorem texts_open9 {t:TypeId} {fuel:Nat} {v:Value} {x:DataW H × List MemPlace} (ht:Tryz.prog.underlying t=some (.slice 9)) (h:DataW.trod enc Tryz.prog w 0 spare held fuel t [v]=some x) (hs:Sz Tryz.prog t x.1) :
 ∃ l:List (List UInt8),StrsAt w v l/\∀ s∈l,s.length<=140737488351232:=by
 have hb:Tryz.prog.bytesOf 9=16:=by kernel_rfl
 obtain⟨rows,hr,hd⟩:=open_rows (sz:=1) ht (by kernel_rfl) (by decide) h (fun el sp e=>by
  have:=(e ▸ hs).len ht
  rw[hb] at this
  omega)
 rcases hd with ⟨rfl,_⟩ | ⟨el,sp,e,hl,hi⟩
 ·exact⟨[],hr,by simp⟩
 ·obtain⟨m,hm⟩:=list_as (α := {s:List UInt8 // s.length<=140737488351232}) (fun s=>strC s.1) rows (fun row hrow=>by
   obtain⟨i,hi'⟩:=List.getElem?_of_mem hrow
   obtain⟨_,n,d,Pl,h1,h2⟩:=hi i row hi'
   obtain⟨s,h3,h4,_⟩:=DataW.trod_string Tryz.underlying9 h2
   have h6:=((e ▸ hs).elem ht (List.mem_of_getElem? h1)) s.data.toList.length (by rw[(Prod.mk.inj h4).1];simp [DataW.weights])
   exact⟨⟨s.data.toList,by simpa [reachBytes] using h6⟩,by simpa [strC] using h3⟩)
  subst hm
  refine⟨m.map (·.1),by simpa [StrsAt,Function.comp_def] using hr,fun s hs=>?_⟩
  obtain⟨q,_,rfl⟩:=List.mem_map.1 hs
  exact q.2
set_option maxRecDepth 100000 in
theorem atm_open9 {n:Nat} {row:List Value} {d:DataW H} {Pl:List MemPlace} (h:DataW.trod enc Tryz.prog w 0 spare held n 105 row=some (d,Pl)) (hs:Sz Tryz.prog 105 d) :
 ∃ a:Atm,AtmC w row a/\AtmS a:=by
 obtain⟨y0,y1,m,hx,hl,h0,h1⟩:=trod_struct2 Tryz.underlying105 h
 have hc:Tryz.prog.cellsOf 105=2:=by kernel_rfl
 have c0:Tryz.prog.cellsOf 9=1:=by kernel_rfl
 have c1:Tryz.prog.cellsOf 103=1:=by kernel_rfl
 rw[hc] at hl
 simp only[Prod.mk.injEq] at hx
 rw[hx.1] at hs
 obtain⟨a,b,rfl⟩:=len2 hl
 ·simp only[c0,c1,List.drop_zero,List.take_succ_cons,List.take_zero,List.drop_succ_cons] at h0 h1
  obtain⟨s,e0,f0,_⟩:=DataW.trod_string Tryz.underlying9 h0
  simp only[List.cons.injEq,and_true] at e0
  subst e0
  obtain⟨ts,hr,hn,hw⟩:=terms_open9 Tryz.underlying103 h1 (hs.field Tryz.underlying105 (j:=1) rfl rfl)
  exact⟨⟨s.data.toList,ts⟩,⟨b,by simp,hr,hn⟩,lit_small Tryz.underlying105 rfl (by rw[f0];rfl) hs,hw⟩
set_option maxRecDepth 100000 in
theorem atoms_open9 {t:TypeId} {fuel:Nat} {v:Value} {x:DataW H × List MemPlace} (ht:Tryz.prog.underlying t=some (.slice 105)) (h:DataW.trod enc Tryz.prog w 0 spare held fuel t [v]=some x) (hs:Sz Tryz.prog t x.1) :
 ∃ al:List Atm,AtomsAt w v al/\al.length<=3518437208780/\∀ a∈al,AtmS a:=by
 have hb:Tryz.prog.bytesOf 105=40:=by kernel_rfl
 obtain⟨rows,hr,hd⟩:=open_rows (sz:=2) ht (by kernel_rfl) (by decide) h (fun el sp e=>by
  have:=(e ▸ hs).len ht
  rw[hb] at this
  omega)
 rcases hd with ⟨rfl,_⟩ | ⟨el,sp,e,hl,hi⟩
 ·exact⟨[],⟨[],hr,trivial⟩,Nat.zero_le _,by simp⟩
 ·have hle:=(e ▸ hs).len ht
  rw[hb,hl] at hle
  have hse:=fun d (hd:d∈el)=>(e ▸ hs:Sz Tryz.prog t (.slice el sp)).elem ht hd
  obtain⟨al,hal⟩:=all2_of (fun (p:List Value) (a : {a:Atm // AtmS a})=>AtmC w p a.1) rows (fun p hp=>by
   obtain⟨i,hip⟩:=List.getElem?_of_mem hp
   obtain⟨_,n,d,Pl,hdi,hti⟩:=hi i p hip
   obtain⟨a,h1,h2⟩:=atm_open9 hti (hse d (List.mem_of_getElem? hdi))
   exact⟨⟨a,h2⟩,h1⟩)
  have h2:All2 (fun (p:List Value) (a:Atm)=>AtmC w p a) rows (al.map (·.1)):=by
   clear hi hse hl hr hle
   induction rows generalizing al with
   | nil=>cases al with
     | nil=>trivial
     | cons _ _=>exact hal.elim
   | cons p z ih=>cases al with
     | nil=>exact hal.elim
     | cons a al=>exact⟨hal.1,ih al hal.2⟩
  refine⟨al.map (·.1),⟨rows,hr,h2⟩,by rw[<-h2.length];omega,fun a ha=>?_⟩
  obtain⟨q,_,rfl⟩:=List.mem_map.1 ha
  exact q.2
end
section
variable {H : Type} {enc : TypeId × Value -> H} {w : World} {spare : Nat -> Bool} {held : Bool}
set_option maxRecDepth 100000 in
theorem qry_openC {n:Nat} {row:List Value} {d:DataW H} {Pl:List MemPlace} (h:DataW.trod enc Tryz.prog w 0 spare held n 50 row=some (d,Pl)) (hs:Sz Tryz.prog 50 d) :
 ∃ (q:Qry) (hv av:Value),row=[.string ⟨q.name.toArray⟩,hv,av]/\StrsAt w hv q.head/\AtomsAt w av q.atoms/\q.atoms.length<=3518437208780/\q.name.length<=140737488351232/\(∀ s∈q.head,s.length<=140737488351232)/\∀ a∈q.atoms,AtmS a:=by
 obtain⟨y0,y1,y2,m,hx,hl,h0,h1,h2⟩:=trod_struct3 Tryz.underlying50 h
 have hc:Tryz.prog.cellsOf 50=3:=by kernel_rfl
 have c0:Tryz.prog.cellsOf 9=1:=by kernel_rfl
 have c1:Tryz.prog.cellsOf 28=1:=by kernel_rfl
 have c2:Tryz.prog.cellsOf 48=1:=by kernel_rfl
 rw[hc] at hl
 simp only[Prod.mk.injEq] at hx
 rw[hx.1] at hs
 obtain⟨a,b,c,rfl⟩:=len3 hl
 simp only[c0,c1,c2,List.drop_zero,List.take_succ_cons,List.take_zero,List.drop_succ_cons] at h0 h1 h2
 obtain⟨s,e0,f0,_⟩:=DataW.trod_string Tryz.underlying9 h0
 simp only[List.cons.injEq,and_true] at e0
 subst e0
 obtain⟨hd,hh,hhd⟩:=texts_open9 Tryz.underlying28 h1 (hs.field Tryz.underlying50 (j:=1) rfl rfl)
 obtain⟨al,ha,hal,hw⟩:=atoms_open9 Tryz.underlying48 h2 (hs.field Tryz.underlying50 (j:=2) rfl rfl)
 exact⟨⟨s.data.toList,hd,al⟩,b,c,by simp,hh,ha,hal,lit_small Tryz.underlying50 rfl (by rw[f0];rfl) hs,hhd,hw⟩
end
end Go.Proofs.YtgopfpjinohncaaGreatDoor
namespace Go.Proofs.YtgopfpjinohncaaGreatDoor.dumpLines
open Go.ChangeShapes Go.WideShapes Go.ChangeAt Go.RowKit
open Go.ChangeMaps (open_string shut_string)
set_option linter.unusedVariables false
theorem an {a b:Bool} (h:a=true) (k:b=true):(a && b)=true:=by rw[h,k];rfl
theorem ja:(Rows.dumpLinesUptoRow.wf (OpenSpec.ofChange (Rows.OpenSpec.upto Rows.dumpLinesSpec).bare) && laidOutB Tryz.pinned.checked.prog && mapsRowed Tryz.pinned.checked.prog && (Tryz.f3).params.all (Tryz.pinned.checked.prog.readableRec ·) && namedTie Tryz.pinned.checked.prog Rows.dumpLinesUptoRow.named ((Rows.OpenSpec.upto Rows.dumpLinesSpec).bare).vars && (Rows.dumpLinesUptoRow.stops == []) && (Tryz.pinned.checked.prog.stops == []) && (Rows.dumpLinesUptoRow.knobs == []) && (Tryz.pinned.checked.prog.stopKnobs == []))=true:=by kernel_rfl
theorem jb:(Rows.dumpLinesUptoRow.inPlace == Tryz.pinned.checked.prog.inPlace 3)=true:=by kernel_rfl
theorem jc:(Rows.dumpLinesUptoRow.unfollowed == Tryz.pinned.checked.prog.unfollowed 3)=true:=by kernel_rfl
theorem jd:(Rows.dumpLinesUptoRow.recurses == Tryz.pinned.checked.prog.recurses 3)=true:=by kernel_rfl
theorem je:(Rows.dumpLinesUptoRow.named == Tryz.pinned.checked.prog.varsNamed 3)=true:=by kernel_rfl
theorem closed:joinedFacts Tryz.pinned.checked.prog 3 Tryz.f3 (Rows.OpenSpec.upto Rows.dumpLinesSpec).bare Rows.dumpLinesUptoRow=true:=by
 unfold joinedFacts
 exact an (an (an (an (an (an (an (an (an (an (an (an (an (an (an (an (an (an (an (an (an (an (an ja jb) jc) jd) je) (by kernel_rfl)) (by kernel_rfl)) (by kernel_rfl)) (by kernel_rfl)) (by kernel_rfl)) (by kernel_rfl)) (by kernel_rfl)) (by kernel_rfl)) (by kernel_rfl)) (by kernel_rfl)) (by kernel_rfl)) (by kernel_rfl)) (by kernel_rfl)) (by kernel_rfl)) (by kernel_rfl)) (by kernel_rfl)) (by kernel_rfl)) (by kernel_rfl)) (by kernel_rfl)
theorem plain (f:FuncId) (fn:Func) (hf:Tryz.pinned.checked.prog.funcNamed "osier/osierlaw26.DumpLines" = some f) (hfn:Tryz.pinned.checked.prog.funcs[f]? = some fn) :
 true=Tryz.pinned.checked.prog.looks []/\∀ (j:Nat) t,fn.params[j]? = some t->Tryz.pinned.checked.prog.wantsStandIn t=false:=by
 obtain rfl:f=3:=Option.some.inj ((show Tryz.prog.funcNamed "osier/osierlaw26.DumpLines" = some 3 by kernel_rfl).symm.trans hf) |>.symm
 obtain rfl:fn=Tryz.f3:=(Option.some.inj (Tryz.func3.symm.trans hfn)).symm
 refine⟨by kernel_rfl,fun j t ht=>?_⟩
 rw[Tryz.params3] at ht
 have hm:t∈[22,23,24]:=by simpa using Array.mem_of_getElem? ht
 have hall:([22,23,24].all fun u => !Tryz.prog.wantsStandIn u)=true:=by kernel_rfl
 exact (show Tryz.prog.wantsStandIn t=false by simpa using List.all_eq_true.1 hall t hm)
end Go.Proofs.YtgopfpjinohncaaGreatDoor.dumpLines
