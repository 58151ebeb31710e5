/- The frame of a law's proof over listed variables: -/
import Derived.Test.YtgopfpjinohncaaGreatDoorCards
import Derived.Test.YtgopfpjinohncaaGreatDoorTie
import Derived.Test.YtgopfpjinohncaaGreatDoorJyF
import Derived.LaidMore
import Derived.Lib.SmallJoins
import Derived.Stop.Joined
set_option maxRecDepth 100000
set_option linter.unusedVariables false
namespace Go.Proofs.YtgopfpjinohncaaGreatDoor
open Go.Proofs.Tryz
open Go.ChangeShapes Go.WideShapes Go.ChangeAt Go.RowKit Go.Joins
open Go.ChangeMaps (open_string shut_string)
theorem Tryz.own:ownKnob prog.godebug=none:=by kernel_rfl
theorem Tryz.laidOut:laidOutB prog=true:=by kernel_rfl
theorem oW {H:Type} {enc:TypeId × Value->H} {P:Program} (hl:laidOutB P=true) {W W':World} (hb:Below W.heap.size W W') :
 ∀ (ts:List TypeId) (vs:List Value) (ds:List (DataW H)) (ps:List MemPlace),ts.all (fun t=>P.readableRec t && decide (t<P.types.size))=true ->
  DataW.TrodAll enc P W 0 (fun _=>true) true ts vs ds ps->DataW.TrodAll enc P W' 0 (fun b=>decide (b<W.heap.size)) true ts vs ds ps:=by
 intro ts
 induction ts with
 | nil =>
   intro vs ds ps _ h
   cases vs with
   | nil =>
     cases ds with
     | nil=>exact h
     | cons _ _=>exact h
   | cons _ _ =>
     cases ds with
     | nil=>exact h
     | cons _ _=>exact h
 | cons t ts ih =>
   intro vs ds ps hall h
   simp only[List.all_cons,Bool.and_eq_true,decide_eq_true_eq] at hall
   obtain⟨v0,vs0,d0,ds0,p0,q0,rfl,rfl,rfl,h0,r0⟩:=trodAll_cons h
   refine trodAll_cons_mk (Below.trod hl hall.1.1 hall.1.2 h0 hb ?_) (ih _ _ _ hall.2 r0)
   intro x hx
   obtain⟨m,hm⟩:=h0
   exact DataW.trod_lt m _ _ _ hm x hx
def Ay:List (String × DataW Unit):=[("math/bits.deBruijn32tab",Rows.laid_math_bits_deBruijn32tab),("math/bits.deBruijn64tab",Rows.laid_math_bits_deBruijn64tab),("internal/strconv.uint64pow10",Rows.laid_internal_strconv_uint64pow10),("strconv.ErrRange",Rows.laid_strconv_ErrRange),("strconv.ErrSyntax",Rows.laid_strconv_ErrSyntax)]
theorem jp {P:Program} {w:World} {fuel:Nat} {t:TypeId} {ms:Array (String × TypeId)} {cs:List Value} {nm:String} {d:DataW Unit} {q:List MemPlace}
 (ht:P.underlying t=some (.interface ms)) (h:DataW.trod (fun _=>()) P w 0 (fun _=>true) false fuel t cs=some (.iface nm d,q)):∃ u v,cs=[.iface u v]:=by
 cases fuel with
 | zero=>simp [DataW.trod] at h
 | succ n =>
   simp only[DataW.trod,ht] at h
   split at h<;>simp_all
theorem Fp:prog.globalNamed "internal/strconv.uint64pow10" = some 1:=by kernel_rfl
theorem EN:prog.globalNamed "strconv.ErrRange" = some 6:=by kernel_rfl
theorem E6:prog.globalNamed "strconv.ErrSyntax" = some 5:=by kernel_rfl
theorem Fh:(prog.globals[1]?).map (·.type)=some 387:=by kernel_rfl
theorem E5:(prog.globals[6]?).map (·.type)=some 160:=by kernel_rfl
theorem Fm:(prog.globals[5]?).map (·.type)=some 160:=by kernel_rfl
theorem Fl:prog.cellsOf 387=20:=by kernel_rfl
theorem Fo:prog.cellsOf 293=1:=by kernel_rfl
theorem qM {W:World} (h:laidMetH prog Ay W):bY W:=by
 rw[MakeChecks.laidMetH_plain _ _ _ (by kernel_rfl)] at h
 obtain⟨ps,⟨g1,t1,cs1,f1,p1,q1,hg1,ht1,hv1,hd1,⟨g2,t2,cs2,f2,p2,q2,hg2,ht2,hv2,hd2,⟨g3,t3,cs3,f3,p3,q3,hg3,ht3,hv3,hd3,⟨g4,t4,cs4,f4,p4,q4,hg4,ht4,hv4,hd4,⟨g5,t5,cs5,f5,p5,q5,hg5,ht5,hv5,hd5,_,_⟩,_⟩,_⟩,_⟩,_⟩,_⟩:=h
 obtain rfl:=Option.some.inj (Fp.symm.trans hg3)
 obtain rfl:=Option.some.inj (EN.symm.trans hg4)
 obtain rfl:=Option.some.inj (E6.symm.trans hg5)
 obtain rfl:=Option.some.inj (Fh.symm.trans ht3)
 obtain rfl:=Option.some.inj (E5.symm.trans ht4)
 obtain rfl:=Option.some.inj (Fm.symm.trans ht5)
 have g6:6+1<=W.heap.size:=by
  have hg64:prog.globalNamed "math/bits.deBruijn64tab" = some 4:=by kernel_rfl
  obtain rfl:=Option.some.inj (hg64.symm.trans hg2)
  have k2:4<W.heap.size:=by
   unfold World.var? at hv2
   simp only[hg64,Option.bind_some] at hv2
   rcases Nat.lt_or_ge 4 W.heap.size with h | h
   ·exact h
   ·rw[Array.getElem?_eq_none h] at hv2
    simp at hv2
  have k4:6<W.heap.size:=by
   unfold World.var? at hv4
   simp only[EN,Option.bind_some] at hv4
   rcases Nat.lt_or_ge 6 W.heap.size with h | h
   ·exact h
   ·rw[Array.getElem?_eq_none h] at hv4
    simp at hv4
  omega
 obtain⟨u4,w4,e4⟩:=jp (ms:=#[("Error",158)]) underlying160 (show DataW.trod _ _ _ _ _ _ _ _ _=some (.iface _ _,_) from hd4)
 obtain⟨u5,w5,e5⟩:=jp (ms:=#[("Error",158)]) underlying160 (show DataW.trod _ _ _ _ _ _ _ _ _=some (.iface _ _,_) from hd5)
 have f4:cs4=#[.iface u4 w4]:=by cases cs4;simp_all
 have f5:cs5=#[.iface u5 w5]:=by cases cs5;simp_all
 have et:(Rows.laid_internal_strconv_uint64pow10:DataW Unit)=Lib.tabData .u64 Lib.pow10Tab:=by kernel_rfl
 rw[et] at hd3
 have hcs:=Lib.cells_of_tab underlying387 underlying293 Fo Fl hd3
 refine⟨⟨u5,w5,by rw[hv5,f5]⟩,⟨u4,w4,by rw[hv4,f4]⟩,?_,g6⟩
 unfold Lib.TabIs
 rw[hv3,<-hcs]
theorem tO (os:Os) (args:Array Value):((World.doorLaid prog 100 os).forCall (fun _ _=>0) ⟨#[],args,[]⟩).Shaped prog :=
 World.shaped_of_RefB (by kernel_rfl) (by kernel_rfl)
theorem zj {n:Int} (h:(Lit.int .i64 n).wf=true) : -9223372036854775808<=n/\n<=9223372036854775807:=by
 simp only[Lit.wf,Bool.and_eq_true,decide_eq_true_eq] at h
 have e1:IntKind.i64.min = -9223372036854775808:=by decide
 have e2:IntKind.i64.max=9223372036854775807:=by decide
 rw[e1,e2] at h
 exact h
end Go.Proofs.YtgopfpjinohncaaGreatDoor
namespace Go.Proofs.YtgopfpjinohncaaGreatDoor
open Go.Proofs.Tryz
open Go.ChangeShapes Go.WideShapes Go.ChangeAt Go.RowKit Go.Deep
theorem kB {α β:Type} (f:α->β):∀ (l:List β),(∀ b∈l,∃ a,b=f a)->∃ m:List α,l=m.map f
 | [],_=>⟨[],rfl⟩
 | b::l,h=>by
   obtain⟨a,rfl⟩:=h b List.mem_cons_self
   obtain⟨m,rfl⟩:=kB f l fun c hc=>h c (List.mem_cons_of_mem _ hc)
   exact⟨a::m,rfl⟩
theorem D0 {cs:List Value} (h:cs.length=4):∃ a b c d,cs=[a,b,c,d]:=by
 match cs,h with
 | [a,b,c,d],_=>exact⟨a,b,c,d,rfl⟩
def Sz {H:Type} (P:Program) (t:TypeId) (d:DataW H):Prop:=∀ n∈DataW.weights P t d,n<=reachBytes
section
variable {H : Type} {enc : TypeId × Value -> H} {P : Program} {w : World} {spare : Nat -> Bool} {held : Bool}
theorem Sz.ofEach {ts:List TypeId} {ds:List (DataW H)} (h:(DataW.weightsEach P ts ds).all (· <= reachBytes)=true) {j:Nat} {t:TypeId} {d:DataW H} (ht:ts[j]? = some t) (hd:ds[j]? = some d):Sz P t d:=fun n hn=>by
 have:=List.all_eq_true.1 h n (DataW.weights_mem_each ht hd n hn)
 simpa using this
theorem Sz.field {t:TypeId} {fs:Array Field} {parts:List (DataW H)} (h:Sz P t (.agg parts)) (hu:P.underlying t=some (.struct fs)) {j:Nat} {u:TypeId} {d:DataW H} (hf:(fs.toList.map (·.type))[j]? = some u) (hd:parts[j]? = some d):Sz P u d:=fun n hn =>
 h n (by simp only[DataW.weights,hu];exact DataW.weights_mem_each hf hd n hn)
theorem gY {e:TypeId}:∀ {el:List (DataW H)} {d:DataW H},d∈el->∀ n∈DataW.weights P e d,n∈DataW.weightsAll P e el
 | x::el,d,hd,n,hn=>by
   simp only[DataW.weightsAll,List.mem_append]
   rcases List.mem_cons.1 hd with rfl | hd
   ·exact .inl hn
   ·exact .inr (gY hd n hn)
theorem Sz.elem {t e:TypeId} {el sp:List (DataW H)} (h:Sz P t (.slice el sp)) (hu:P.underlying t=some (.slice e)) {d:DataW H} (hd:d∈el):Sz P e d:=fun n hn =>
 h n (by simp only[DataW.weights,hu];exact List.mem_cons_of_mem _ (List.mem_append.2 (.inl (gY hd n hn))))
theorem Sz.len {t e:TypeId} {el sp:List (DataW H)} (h:Sz P t (.slice el sp)) (hu:P.underlying t=some (.slice e)):el.length * P.bytesOf e<=140737488351232:=by
 have h1:=h ((el.length+sp.length) * P.bytesOf e) (by simp only[DataW.weights,hu];exact List.mem_cons_self)
 have hr:reachBytes=140737488351232:=by decide
 rw[hr,Nat.add_mul] at h1
 omega
theorem cX {t e:TypeId} {sz fuel:Nat} {v:Value} {x:DataW H × List MemPlace} (ht:P.underlying t=some (.slice e)) (hc:P.cellsOf e=sz) (hz:0<sz)
 (h:DataW.trod enc P w 0 spare held fuel t [v]=some x) (hb:∀ el sp,x.1=.slice el sp->el.length<=8796093022208) :
 ∃ rows:List (List Value),aj w v sz rows/\((rows=[]/\x.1=.nil)∨∃ el sp,x.1=.slice el sp/\el.length=rows.length /\
  ∀ (i:Nat) (row:List Value),rows[i]? = some row->row.length=sz/\∃ n d Pl,el[i]? = some d/\DataW.trod enc P w 0 spare held n e row=some (d,Pl)):=by
 rcases open_slice ht h with ⟨hcs,hx⟩ | ⟨a,len,cap,m,n,D,Pl,hcs,_,hl,hm,hmm,hx,hi⟩
 ·simp only[List.cons.injEq,and_true] at hcs
  subst hcs
  exact⟨[],aj.nil _ _,.inl ⟨rfl,by rw[hx]⟩⟩
 ·simp only[List.cons.injEq,and_true] at hcs
  subst hcs
  have hlm:len<=m:=by rw[hmm];split<;>omega
  have hlen:len<=8796093022208:=by
   have:=hb _ _ (by rw[hx])
   simpa using this
  obtain⟨R,hR⟩:=choose_lt (α:=List Value) (n:=len) (p:=fun i r=>w.cells? 0 (a.add (i * sz)) sz=some r/\DataW.trod enc P w 0 spare held n e r=some (D i,Pl i)) (fun i hil=>by
   obtain⟨cs',h1,h2⟩:=hi i (by omega)
   rw[hc] at h1
   exact⟨cs',h1,h2⟩)
  have hget:∀ (i:Nat) (row:List Value),((List.range len).map R)[i]? = some row->i<len/\row=R i:=by
   intro i row hr
   rw[List.getElem?_map] at hr
   rcases Nat.lt_or_ge i len with h1 | h1
   ·rw[List.getElem?_range h1] at hr
    simp only[Option.map_some,Option.some.injEq] at hr
    exact⟨h1,hr.symm⟩
   ·rw[List.getElem?_eq_none (by simpa using h1)] at hr
    simp at hr
  refine⟨(List.range len).map R,⟨by simpa using hlen,some a,cap,by simp,by simpa using hl,hm,?_⟩,.inr ⟨_,_,by rw[hx],by simp,fun i row hr=>?_⟩⟩
  ·by_cases h0:len=0
   ·subst h0
    exact .inl rfl
   ·right
    have h00:=(hR 0 (by omega)).1
    obtain⟨_,hcl,hat⟩:=World.cells?_some h00
    have hc0:=hat 0 hz
    have hv0:(R 0)[0]? = some ((R 0)[0]'(by omega)):=FD (by omega)
    rw[hv0] at hc0
    obtain⟨b,off,spot⟩:=a
    have hspot:spot=none:=by simpa [Addr.add] using World.cell?_spot hc0
    subst hspot
    have hlt:b<w.heap.size:=by
     have:=World.block_lt_of_cell? w _ hc0
     simpa [Addr.add] using this
    refine⟨b,off,rfl,hlt,fun i j x u hx' hu=>?_⟩
    obtain⟨hil,rfl⟩:=hget i x hx'
    obtain⟨_,hcl',hat'⟩:=World.cells?_some (hR i hil).1
    have hj:=(FE hu).1
    have h3:=hat' j (by omega)
    rw[hu,Go.Deep.add_add] at h3
    rw[<-h3]
    congr 1
    simp only[Addr.add]
    split<;>simp_all
  ·obtain⟨hil,rfl⟩:=hget i row hr
   obtain⟨_,hcl',_⟩:=World.cells?_some (hR i hil).1
   exact⟨hcl',n,D i,Pl i,by rw[List.getElem?_map,List.getElem?_range hil];rfl,(hR i hil).2⟩
end
section
variable {H : Type} {enc : TypeId × Value -> H} {w : World} {spare : Nat -> Bool} {held : Bool}
theorem wI {n:Nat} {row:List Value} {d:DataW H} {Pl:List MemPlace} (h:DataW.trod enc prog w 0 spare held n 111 row=some (d,Pl)) :
 ∃ u:Vl,row=u.cells/\(-9223372036854775808<=u.n/\u.n<=9223372036854775807)/\d=.agg [.lit (.int .i64 u.k),.lit (.int .i64 u.n),.lit (.string u.t)]:=by
 obtain⟨y0,y1,y2,m,hx,hl,h0,h1,h2⟩:=trod_struct3 underlying111 h
 have hc:prog.cellsOf 111=3:=by kernel_rfl
 have c0:prog.cellsOf 107=1:=by kernel_rfl
 have c1:prog.cellsOf 2=1:=by kernel_rfl
 have c2:prog.cellsOf 9=1:=by kernel_rfl
 rw[hc] at hl
 obtain⟨a,b,c,rfl⟩:=te hl
 ·simp only[c0,c1,c2,List.drop_zero,List.take_succ_cons,List.take_zero,List.drop_succ_cons] at h0 h1 h2
  obtain⟨k,e0,f0,_⟩:=DataW.trod_int underlying107 h0
  obtain⟨q,e1,f1,wq⟩:=DataW.trod_int underlying2 h1
  obtain⟨s,e2,f2,_⟩:=DataW.trod_string underlying9 h2
  simp only[List.cons.injEq,and_true] at e0 e1 e2
  subst e0 e1 e2
  refine⟨⟨k,q,s.data.toList⟩,by simp [Vl.cells],zj wq,?_⟩
  simp only[Prod.mk.injEq] at hx
  rw[hx.1,f0,f1,f2]
theorem Ap {n:Nat} {row:List Value} {d:DataW H} {Pl:List MemPlace} (h:DataW.trod enc prog w 0 spare held n 113 row=some (d,Pl)) :
 ∃ t:dd,row=t.cells/\(-9223372036854775808<=t.n/\t.n<=9223372036854775807)/\d=.agg [.lit (.string t.x),.agg [.lit (.int .i64 t.k),.lit (.int .i64 t.n),.lit (.string t.t)]]:=by
 obtain⟨y0,y1,m,hx,hl,h0,h1⟩:=trod_struct2 underlying113 h
 have hc:prog.cellsOf 113=4:=by kernel_rfl
 have c0:prog.cellsOf 9=1:=by kernel_rfl
 have c1:prog.cellsOf 111=3:=by kernel_rfl
 rw[hc] at hl
 obtain⟨a,b,c,e,rfl⟩:=D0 hl
 ·simp only[c0,c1,List.drop_zero,List.take_succ_cons,List.take_zero,List.drop_succ_cons] at h0 h1
  obtain⟨s,e0,f0,_⟩:=DataW.trod_string underlying9 h0
  obtain⟨u,e1,bu,f1⟩:=wI (d:=y1.1) (Pl:=y1.2) h1
  simp only[List.cons.injEq,and_true] at e0
  subst e0
  refine⟨⟨s.data.toList,u.k,u.n,u.t⟩,?_,bu,?_⟩
  ·simp only[dd.cells]
   rw[show [Value.string s,b,c,e]=.string s::[b,c,e] from rfl,e1]
   simp [Vl.cells]
  ·simp only[Prod.mk.injEq] at hx
   rw[hx.1,f0,f1]
theorem yf {t:TypeId} {fuel:Nat} {v:Value} {x:DataW H × List MemPlace} (ht:prog.underlying t=some (.slice 111)) (h:DataW.trod enc prog w 0 spare held fuel t [v]=some x) (hs:Sz prog t x.1) :
 ∃ vs:List Vl,aj w v 3 (vs.map Vl.cells)/\vs.length<=4398046511104/\∀ u∈vs,-9223372036854775808<=u.n/\u.n<=9223372036854775807:=by
 have hb:prog.bytesOf 111=32:=by kernel_rfl
 obtain⟨rows,hr,hd⟩:=cX (sz:=3) ht (by kernel_rfl) (by decide) h (fun el sp e=>by
  have:=(e ▸ hs).len ht
  rw[hb] at this
  omega)
 rcases hd with ⟨rfl,_⟩ | ⟨el,sp,e,hl,hi⟩
 ·exact⟨[],hr,Fz,by simp⟩
 ·have hle:=(e ▸ hs).len ht
  rw[hb,hl] at hle
  obtain⟨m,hm⟩:=kB (α := {u:Vl // -9223372036854775808<=u.n/\u.n<=9223372036854775807}) (fun u=>u.1.cells) rows (fun row hrow=>by
   obtain⟨i,hi'⟩:=List.getElem?_of_mem hrow
   obtain⟨_,n,d,Pl,_,h2⟩:=hi i row hi'
   obtain⟨u,h3,h4,_⟩:=wI h2
   exact⟨⟨u,h4⟩,h3⟩)
  subst hm
  refine⟨m.map (·.1),by simpa [Function.comp_def] using hr,by simp at hle ⊢;omega,fun u hu=>?_⟩
  obtain⟨q,_,rfl⟩:=List.mem_map.1 hu
  exact q.2
theorem jY {α β:Type} (R:α->β->Prop):∀ (l:List α),(∀ a∈l,∃ b,R a b)->∃ m:List β,aH R l m
 | [],_=>⟨[],trivial⟩
 | a::l,h=>by
   obtain⟨b,hb⟩:=h a List.mem_cons_self
   obtain⟨m,hm⟩:=jY R l fun c hc=>h c (List.mem_cons_of_mem _ hc)
   exact⟨b::m,hb,hm⟩
end
end Go.Proofs.YtgopfpjinohncaaGreatDoor
namespace Go.Proofs.YtgopfpjinohncaaGreatDoor
open Go.Proofs.Tryz
open Go.ChangeShapes Go.WideShapes Go.ChangeAt Go.RowKit Go.Deep Go.Joins
section
variable {H : Type} {enc : TypeId × Value -> H}
theorem eO {a:Assume} {C:Checked} {os:Os} {f:FuncId} {fn:Func} {s:OpenSpec} {k:(H:Type)->List (DataW H)->Bool} (hk:s.cond=some k) {F:Stop.Interp} {conds:List PathCond} {apart fresh handsOn again:Bool} {X:World->Array Value->Prop}
 (hX:∀ (w w':World) (args:Array Value),w.heap=w'.heap->X w args->X w' args)
 (own:ownKnob C.prog.godebug=none) (started:os.Started) (noInit:C.prog.inits.idxOf? f=none) (hfn:C.prog.funcs[f]? = some fn)
 (witness:∃ (w:World) (tape:Tape) (i:Input),w.os=os/\(w.forCall tape i).Shaped C.prog/\i.vars=[]/\Input.okWide C.prog (w.forCall tape i) .any w.heap.size f i /\
   ((s.pre enc C.prog fn conds apart (w.forCall tape i).memory i.args/\X (w.forCall tape i).memory i.args)/\sizedMet enc C.prog fn s apart (w.forCall tape i).memory i.args)/\a.holds C.prog (lone (Frame.enter C.prog f i.args .normal) [] (w.forCall tape i)))
 (contract:∀ (W:World) (base:Nat) (args:Array Value) (ds gs:List (DataW H)) (before:List MemPlace),
   (∀ (j:Nat) t v,fn.params[j]? = some t->args[j]? = some v->Value.okWide C.prog W .any base t v) ->
   DataW.Whole enc C.prog fn.params.toList s.vars apart W args.toList ds gs before ->
   conds.all (PathCond.test C.prog ⟨fn.params.toList,ds,s.bare.plain.varTypes C.prog,gs⟩)=true->k H (ds++gs)=true ->
   (DataW.weightsEach C.prog (fn.params.toList++s.bare.plain.varTypes C.prog) (ds++gs)).all (· <= reachBytes)=true->X W args ->
   a.holds C.prog (lone (Frame.enter C.prog f args .normal) [] W) ->
   Calls C.prog f args W fun e W'=>∃ v,e=.returned v/\(s.at F).post enc C.prog fn apart fresh handsOn again W args v W') :
 ReturnsInHanded a C os f .any (fun w args=>(s.pre enc C.prog fn conds apart w args/\X w args)/\sizedMet enc C.prog fn s apart w args) ((s.at F).post enc C.prog fn apart fresh handsOn again):=by
 refine returnsInHanded_of_calls own started noInit witness ?_
 intro w tape i _ _ _ hok hpre hholds
 obtain⟨_,_,_,fn',hfn',_,_,_,_,hval⟩:=hok
 have e:fn'=fn:=Option.some.inj (hfn'.symm.trans hfn)
 subst e
 obtain⟨⟨hp,hx⟩,hz⟩:=hpre
 obtain⟨ds,gs,before,hw,hc,hkk⟩:=(OpenSpec.pre_some hk conds apart _ _).1 hp
 have hw':=DataW.Whole.of_heap (w':=w.forCall tape i) (by rfl) hw
 refine (contract (w.forCall tape i) w.heap.size i.args ds gs before hval hw' hc hkk (hz.weights hw) (hX _ _ _ (by rfl) hx) hholds).mono fun e W' ⟨v,he,hp⟩=>?_
 subst he
 exact ChangeSpec.post_blind hp
theorem qD {C:Checked} {os:Os} {f:FuncId} {fn:Func} {s:OpenSpec} {k:(H:Type)->List (DataW H)->Bool} (hk:s.cond=some k) {conds:List PathCond} {apart:Bool} {X:World->Array Value->Prop} (modest:Bool) (w0:World) (args:Array Value) (fuel:Nat) (hos:w0.os=os)
 (hsh:(w0.forCall (fun _ _=>0) ⟨#[],args,[]⟩).Shaped C.prog)
 (hok:Input.okWideB C.prog (w0.forCall (fun _ _=>0) ⟨#[],args,[]⟩) f ⟨#[],args,[]⟩=true)
 {x:List (DataW H) × List (DataW H) × List MemPlace} (hx:DataW.whole enc C.prog (w0.forCall (fun _ _=>0) ⟨#[],args,[]⟩).memory fn.params.toList s.vars apart args.toList fuel=some x)
 (hconds:conds.all (PathCond.test C.prog ⟨fn.params.toList,x.1,s.bare.plain.varTypes C.prog,x.2.1⟩)=true) (hkk:k H (x.1++x.2.1)=true)
 (hsz:s.bare.sizedB enc C.prog fn apart (w0.forCall (fun _ _=>0) ⟨#[],args,[]⟩).memory args fuel=true)
 (hX:X (w0.forCall (fun _ _=>0) ⟨#[],args,[]⟩).memory args) :
 ∃ (w:World) (tape:Tape) (i:Input),w.os=os/\(w.forCall tape i).Shaped C.prog/\i.vars=[]/\Input.okWide C.prog (w.forCall tape i) .any w.heap.size f i /\
  ((s.pre enc C.prog fn conds apart (w.forCall tape i).memory i.args/\X (w.forCall tape i).memory i.args)/\sizedMet enc C.prog fn s apart (w.forCall tape i).memory i.args)/\({ modest:=modest }:Assume).holds C.prog (lone (Frame.enter C.prog f i.args .normal) [] (w.forCall tape i)) :=
 ⟨w0,fun _ _=>0,⟨#[],args,[]⟩,hos,hsh,(Input.okWide_of_okWideB (base:=0) hok).1,(Input.okWide_of_okWideB hok).2,⟨⟨(OpenSpec.pre_some hk conds apart _ _).2 ⟨x.1,x.2.1,x.2.2,DataW.Whole_of_whole hx,hconds,hkk⟩,hX⟩,sizedMet_of_sizedB hsz⟩,by
  simp only[Assume.holds]
  exact⟨by simp,by simp,fun _=>Modest.zero,by simp,by simp⟩⟩
theorem A9 (d:DataW H):1<=Rows.uptoBulk d:=by
 cases d with
 | lit l=>cases l<;>simp [Rows.uptoBulk]
 | nil=>simp [Rows.uptoBulk]
 | ptr d=>simp [Rows.uptoBulk]
 | slice elems spare=>simp [Rows.uptoBulk]
 | agg parts=>simp [Rows.uptoBulk]
 | iface t d=>simp [Rows.uptoBulk]
 | map entries=>simp [Rows.uptoBulk]
 | held h=>simp [Rows.uptoBulk]
theorem kK (l:List (DataW H)):l.length<=Rows.uptoBulkAll l:=by
 induction l with
 | nil=>simp [Rows.uptoBulkAll]
 | cons x r ih=>have:=A9 x;simp only[Rows.uptoBulkAll,List.length_cons];omega
variable {w : World} {spare : Nat -> Bool} {held : Bool}
end
end Go.Proofs.YtgopfpjinohncaaGreatDoor
namespace Go.Proofs.YtgopfpjinohncaaGreatDoor
open Go.Proofs.Tryz
open Go.ChangeShapes Go.WideShapes Go.ChangeAt Go.RowKit Go.Deep
section
variable {H : Type} {enc : TypeId × Value -> H} {w : World} {spare : Nat -> Bool} {held : Bool}
theorem AF {n:Nat} {row:List Value} {d:DataW H} {Pl:List MemPlace} (h:DataW.trod enc prog w 0 spare held n 109 row=some (d,Pl)) :
 ∃ c:bd,row=c.cells/\d=.agg [.lit (.string c.x),.lit (.int .i64 c.k)]:=by
 obtain⟨y0,y1,m,hx,hl,h0,h1⟩:=trod_struct2 underlying109 h
 have hc:prog.cellsOf 109=2:=by kernel_rfl
 have c0:prog.cellsOf 9=1:=by kernel_rfl
 have c1:prog.cellsOf 107=1:=by kernel_rfl
 rw[hc] at hl
 obtain⟨a,b,rfl⟩:=mw hl
 ·simp only[c0,c1,List.drop_zero,List.take_succ_cons,List.take_zero,List.drop_succ_cons] at h0 h1
  obtain⟨s,e0,f0,_⟩:=DataW.trod_string underlying9 h0
  obtain⟨k,e1,f1,wq⟩:=DataW.trod_int underlying107 h1
  simp only[List.cons.injEq,and_true] at e0 e1
  subst e0 e1
  refine⟨⟨s.data.toList,k⟩,by simp [bd.cells],?_⟩
  simp only[Prod.mk.injEq] at hx
  rw[hx.1,f0,f1]
theorem yC {c:bd} {d:DataW H} (hd:d=.agg [.lit (.string c.x),.lit (.int .i64 c.k)]) (h:Sz prog 109 d):c.x.length<=140737488351232:=by
 subst hd
 have h1:=(h.field underlying109 (j:=0) (u:=9) (d:=.lit (.string c.x)) rfl rfl) c.x.length (by simp [DataW.weights])
 simpa [reachBytes] using h1
theorem xL {t:TypeId} {fuel:Nat} {v:Value} {x:DataW H × List MemPlace} (ht:prog.underlying t=some (.slice 109)) (h:DataW.trod enc prog w 0 spare held fuel t [v]=some x) (hs:Sz prog t x.1) :
 ∃ cs:List bd,aO w v cs/\cs.length<=5864062014634/\∀ c∈cs,c.x.length<=140737488351232:=by
 have hb:prog.bytesOf 109=24:=by kernel_rfl
 obtain⟨rows,hr,hd⟩:=cX (sz:=2) ht (by kernel_rfl) (by decide) h (fun el sp e=>by
  have:=(e ▸ hs).len ht
  rw[hb] at this
  omega)
 rcases hd with ⟨rfl,_⟩ | ⟨el,sp,e,hl,hi⟩
 ·exact⟨[],hr,Fz,by simp⟩
 ·have hle:=(e ▸ hs).len ht
  rw[hb,hl] at hle
  obtain⟨m,hm⟩:=kB (α := {u:bd // u.x.length<=140737488351232}) (fun u=>u.1.cells) rows (fun row hrow=>by
   obtain⟨i,hi'⟩:=List.getElem?_of_mem hrow
   obtain⟨_,n,d,Pl,h1,h2⟩:=hi i row hi'
   obtain⟨u,h3,h4⟩:=AF h2
   exact⟨⟨u,yC h4 ((e ▸ hs).elem ht (FC h1))⟩,h3⟩)
  subst hm
  refine⟨m.map (·.1),by simpa [aO,Function.comp_def] using hr,by simp at hle ⊢;omega,fun u hu=>?_⟩
  obtain⟨q,_,rfl⟩:=List.mem_map.1 hu
  exact q.2
end
end Go.Proofs.YtgopfpjinohncaaGreatDoor
namespace Go.Proofs.YtgopfpjinohncaaGreatDoor
open Go.Proofs.Tryz
open Go.ChangeShapes Go.WideShapes Go.ChangeAt Go.RowKit Go.Deep Go.Joins
section
variable {H : Type} {enc : TypeId × Value -> H} {w : World} {spare : Nat -> Bool} {held : Bool}
theorem jf {t:TypeId} {ds:List (DataW H)} {fs:Array Field} {s:List UInt8} (hu:prog.underlying t=some (.struct fs)) (hf:(fs.toList.map (·.type))[0]? = some 9) (h0:ds[0]? = some (.lit (.string s))) (h:Sz prog t (.agg ds)):s.length<=140737488351232:=by
 have h1:=(h.field hu (j:=0) hf h0) s.length (by simp [DataW.weights])
 simpa [reachBytes] using h1
def Eb (u:dd):Prop:=(-9223372036854775808<=u.n/\u.n<=9223372036854775807)/\u.x.length<=140737488351232
def Bi (a:eb):Prop:=a.rel.length<=140737488351232/\∀ u∈a.ts,Eb u
theorem uk {t:TypeId} {fuel:Nat} {v:Value} {x:DataW H × List MemPlace} (ht:prog.underlying t=some (.slice 113)) (h:DataW.trod enc prog w 0 spare held fuel t [v]=some x) (hs:Sz prog t x.1) :
 ∃ ts:List dd,aj w v 4 (ts.map dd.cells)/\ts.length<=2932031007317/\∀ u∈ts,Eb u:=by
 have hb:prog.bytesOf 113=48:=by kernel_rfl
 obtain⟨rows,hr,hd⟩:=cX (sz:=4) ht (by kernel_rfl) (by decide) h (fun el sp e=>by
  have:=(e ▸ hs).len ht
  rw[hb] at this
  omega)
 rcases hd with ⟨rfl,_⟩ | ⟨el,sp,e,hl,hi⟩
 ·exact⟨[],hr,Fz,by simp⟩
 ·have hle:=(e ▸ hs).len ht
  rw[hb,hl] at hle
  obtain⟨m,hm⟩:=kB (α := {u:dd // Eb u}) (fun u=>u.1.cells) rows (fun row hrow=>by
   obtain⟨i,hi'⟩:=List.getElem?_of_mem hrow
   obtain⟨_,n,d,Pl,h1,h2⟩:=hi i row hi'
   obtain⟨u,h3,h4,h5⟩:=Ap h2
   have h6:=(e ▸ hs).elem ht (FC h1)
   rw[h5] at h6
   exact⟨⟨u,h4,jf underlying113 rfl rfl h6⟩,h3⟩)
  subst hm
  refine⟨m.map (·.1),by simpa [Function.comp_def] using hr,by simp at hle ⊢;omega,fun u hu=>?_⟩
  obtain⟨q,_,rfl⟩:=List.mem_map.1 hu
  exact q.2
theorem sW {t:TypeId} {fuel:Nat} {v:Value} {x:DataW H × List MemPlace} (ht:prog.underlying t=some (.slice 9)) (h:DataW.trod enc prog w 0 spare held fuel t [v]=some x) (hs:Sz prog t x.1) :
 ∃ l:List (List UInt8),aI w v l/\∀ s∈l,s.length<=140737488351232:=by
 have hb:prog.bytesOf 9=16:=by kernel_rfl
 obtain⟨rows,hr,hd⟩:=cX (sz:=1) ht (by kernel_rfl) (by decide) h (fun el sp e=>by
  have:=(e ▸ hs).len ht
  rw[hb] at this
  omega)
 rcases hd with ⟨rfl,_⟩ | ⟨el,sp,e,hl,hi⟩
 ·exact⟨[],hr,by simp⟩
 ·obtain⟨m,hm⟩:=kB (α := {s:List UInt8 // s.length<=140737488351232}) (fun s=>bO s.1) rows (fun row hrow=>by
   obtain⟨i,hi'⟩:=List.getElem?_of_mem hrow
   obtain⟨_,n,d,Pl,h1,h2⟩:=hi i row hi'
   obtain⟨s,h3,h4,_⟩:=DataW.trod_string underlying9 h2
   have h6:=((e ▸ hs).elem ht (FC h1)) s.data.toList.length (by rw[(Prod.mk.inj h4).1];simp [DataW.weights])
   exact⟨⟨s.data.toList,by simpa [reachBytes] using h6⟩,by simpa [bO] using h3⟩)
  subst hm
  refine⟨m.map (·.1),by simpa [aI,Function.comp_def] using hr,fun s hs=>?_⟩
  obtain⟨q,_,rfl⟩:=List.mem_map.1 hs
  exact q.2
theorem yO {n:Nat} {row:List Value} {d:DataW H} {Pl:List MemPlace} (h:DataW.trod enc prog w 0 spare held n 105 row=some (d,Pl)) (hs:Sz prog 105 d) :
 ∃ a:eb,tZ w row a/\Bi a:=by
 obtain⟨y0,y1,m,hx,hl,h0,h1⟩:=trod_struct2 underlying105 h
 have hc:prog.cellsOf 105=2:=by kernel_rfl
 have c0:prog.cellsOf 9=1:=by kernel_rfl
 have c1:prog.cellsOf 103=1:=by kernel_rfl
 rw[hc] at hl
 simp only[Prod.mk.injEq] at hx
 rw[hx.1] at hs
 obtain⟨a,b,rfl⟩:=mw hl
 ·simp only[c0,c1,List.drop_zero,List.take_succ_cons,List.take_zero,List.drop_succ_cons] at h0 h1
  obtain⟨s,e0,f0,_⟩:=DataW.trod_string underlying9 h0
  simp only[List.cons.injEq,and_true] at e0
  subst e0
  obtain⟨ts,hr,hn,hw⟩:=uk underlying103 h1 (hs.field underlying105 (j:=1) rfl rfl)
  exact⟨⟨s.data.toList,ts⟩,⟨b,by simp,hr,hn⟩,jf underlying105 rfl (by rw[f0];rfl) hs,hw⟩
theorem rN {t:TypeId} {fuel:Nat} {v:Value} {x:DataW H × List MemPlace} (ht:prog.underlying t=some (.slice 105)) (h:DataW.trod enc prog w 0 spare held fuel t [v]=some x) (hs:Sz prog t x.1) :
 ∃ al:List eb,aK w v al/\al.length<=3518437208780/\∀ a∈al,Bi a:=by
 have hb:prog.bytesOf 105=40:=by kernel_rfl
 obtain⟨rows,hr,hd⟩:=cX (sz:=2) ht (by kernel_rfl) (by decide) h (fun el sp e=>by
  have:=(e ▸ hs).len ht
  rw[hb] at this
  omega)
 rcases hd with ⟨rfl,_⟩ | ⟨el,sp,e,hl,hi⟩
 ·exact⟨[],⟨[],hr,trivial⟩,Fz,by simp⟩
 ·have hle:=(e ▸ hs).len ht
  rw[hb,hl] at hle
  have hse:=fun d (hd:d∈el)=>(e ▸ hs:Sz prog t (.slice el sp)).elem ht hd
  obtain⟨al,hal⟩:=jY (fun (p:List Value) (a : {a:eb // Bi a})=>tZ w p a.1) rows (fun p hp=>by
   obtain⟨i,hip⟩:=List.getElem?_of_mem hp
   obtain⟨_,n,d,Pl,hdi,hti⟩:=hi i p hip
   obtain⟨a,h1,h2⟩:=yO hti (hse d (FC hdi))
   exact⟨⟨a,h2⟩,h1⟩)
  have h2:aH (fun (p:List Value) (a:eb)=>tZ w p a) rows (al.map (·.1)):=by
   clear hi hse hl hr hle
   induction rows generalizing al with
   | nil=>cases al with
     | nil=>trivial
     | cons _ _=>exact hal.elim
   | cons p z ih=>cases al with
     | nil=>exact hal.elim
     | cons a al=>exact⟨hal.1,ih al hal.2⟩
  refine⟨al.map (·.1),⟨rows,hr,h2⟩,by rw[<-h2.length];omega,fun a ha=>?_⟩
  obtain⟨q,_,rfl⟩:=List.mem_map.1 ha
  exact q.2
end
section
variable {H : Type} {enc : TypeId × Value -> H} {w : World} {spare : Nat -> Bool} {held : Bool}
theorem xk {n:Nat} {row:List Value} {d:DataW H} {Pl:List MemPlace} (h:DataW.trod enc prog w 0 spare held n 50 row=some (d,Pl)) (hs:Sz prog 50 d) :
 ∃ (q:cf) (hv av:Value),row=[.string ⟨q.name.toArray⟩,hv,av]/\aI w hv q.head/\aK w av q.atoms/\q.atoms.length<=3518437208780/\q.name.length<=140737488351232/\(∀ s∈q.head,s.length<=140737488351232)/\∀ a∈q.atoms,Bi a:=by
 obtain⟨y0,y1,y2,m,hx,hl,h0,h1,h2⟩:=trod_struct3 underlying50 h
 have hc:prog.cellsOf 50=3:=by kernel_rfl
 have c0:prog.cellsOf 9=1:=by kernel_rfl
 have c1:prog.cellsOf 28=1:=by kernel_rfl
 have c2:prog.cellsOf 48=1:=by kernel_rfl
 rw[hc] at hl
 simp only[Prod.mk.injEq] at hx
 rw[hx.1] at hs
 obtain⟨a,b,c,rfl⟩:=te hl
 simp only[c0,c1,c2,List.drop_zero,List.take_succ_cons,List.take_zero,List.drop_succ_cons] at h0 h1 h2
 obtain⟨s,e0,f0,_⟩:=DataW.trod_string underlying9 h0
 simp only[List.cons.injEq,and_true] at e0
 subst e0
 obtain⟨hd,hh,hhd⟩:=sW underlying28 h1 (hs.field underlying50 (j:=1) rfl rfl)
 obtain⟨al,ha,hal,hw⟩:=rN underlying48 h2 (hs.field underlying50 (j:=2) rfl rfl)
 exact⟨⟨s.data.toList,hd,al⟩,b,c,by simp,hh,ha,hal,jf underlying50 rfl (by rw[f0];rfl) hs,hhd,hw⟩
end
