/- The frame of a law's proof over listed variables: what every law of this seat shares. Arguments that hold slices of structs, opened: rows of values, of terms, of texts, of atoms; a query. -/
import Derived.Test.YtgopfpjinohncaaGreatDoorCards
import Derived.Test.YtgopfpjinohncaaGreatDoorTie
import Derived.Test.YtgopfpjinohncaaGreatDoorShelfZL
import Derived.Test.YtgopfpjinohncaaGreatDoorGmL
import Derived.Test.YtgopfpjinohncaaGreatDoorGbL
import Derived.WalkKit
import Derived.ProofKit
import Derived.LaidMore
import Derived.LaidHandle
import Derived.MakeChecks
import Derived.OpenShut
import Derived.ShutString
import Derived.ChangeOld
import Derived.Below
import Derived.Lib.SmallJoins
import Derived.Lib.LaidTab
import Derived.Stop.Joined
import Derived.Deep.Slices
import Derived.Deep.Strs
import Derived.ChangeSame
import Derived.SizedLaws
namespace Go.Proofs.YtgopfpjinohncaaGreatDoor
open Go.ChangeShapes Go.WideShapes Go.ChangeAt Go.RowKit Go.Joins
open Go.ChangeMaps (open_string shut_string)
set_option linter.unusedVariables false
theorem Tryz.own:ownKnob Tryz.prog.godebug=none:=by kernel_rfl
theorem Tryz.laidOut:laidOutB Tryz.prog=true:=by kernel_rfl
theorem trodAll_below {H:Type} {enc:TypeId × Value->H} {P:Program} (hl:laidOutB P=true) {W W':World} (hb:Below W.heap.size W W') :
 ∀ (ts:List TypeId) (vs:List Value) (ds:List (DataW H)) (ps:List MemPlace),ts.all (fun t=>P.readableRec t && decide (t<P.types.size))=true ->
  DataW.TrodAll enc P W 0 (fun _=>true) true ts vs ds ps->DataW.TrodAll enc P W' 0 (fun b=>decide (b<W.heap.size)) true ts vs ds ps:=by
 intro ts
 induction ts with
 | nil =>
   intro vs ds ps _ h
   cases vs with
   | nil =>
     cases ds with
     | nil=>exact h
     | cons _ _=>exact h
   | cons _ _ =>
     cases ds with
     | nil=>exact h
     | cons _ _=>exact h
 | cons t ts ih =>
   intro vs ds ps hall h
   simp only[List.all_cons,Bool.and_eq_true,decide_eq_true_eq] at hall
   obtain⟨v0,vs0,d0,ds0,p0,q0,rfl,rfl,rfl,h0,r0⟩:=trodAll_cons h
   refine trodAll_cons_mk (Below.trod hl hall.1.1 hall.1.2 h0 hb ?_) (ih _ _ _ hall.2 r0)
   intro x hx
   obtain⟨m,hm⟩:=h0
   exact DataW.trod_lt m _ _ _ hm x hx
def laid5:List (String × DataW Unit):=[("math/bits.deBruijn32tab",Rows.laid_math_bits_deBruijn32tab),("math/bits.deBruijn64tab",Rows.laid_math_bits_deBruijn64tab),("internal/strconv.uint64pow10",Rows.laid_internal_strconv_uint64pow10),("strconv.ErrRange",Rows.laid_strconv_ErrRange),("strconv.ErrSyntax",Rows.laid_strconv_ErrSyntax)]
theorem iface_of_trod {P:Program} {w:World} {fuel:Nat} {t:TypeId} {ms:Array (String × TypeId)} {cs:List Value} {nm:String} {d:DataW Unit} {q:List MemPlace}
 (ht:P.underlying t=some (.interface ms)) (h:DataW.trod (fun _=>()) P w 0 (fun _=>true) false fuel t cs=some (.iface nm d,q)):∃ u v,cs=[.iface u v]:=by
 cases fuel with
 | zero=>simp [DataW.trod] at h
 | succ n =>
   simp only[DataW.trod,ht] at h
   split at h<;>simp_all
theorem gTab:Tryz.prog.globalNamed "internal/strconv.uint64pow10" = some 1:=by kernel_rfl
theorem gRng:Tryz.prog.globalNamed "strconv.ErrRange" = some 6:=by kernel_rfl
theorem gSyn:Tryz.prog.globalNamed "strconv.ErrSyntax" = some 5:=by kernel_rfl
theorem tTab:(Tryz.prog.globals[1]?).map (·.type)=some 387:=by kernel_rfl
theorem tRng:(Tryz.prog.globals[6]?).map (·.type)=some 160:=by kernel_rfl
theorem tSyn:(Tryz.prog.globals[5]?).map (·.type)=some 160:=by kernel_rfl
theorem cTab:Tryz.prog.cellsOf 387=20:=by kernel_rfl
theorem cU64:Tryz.prog.cellsOf 293=1:=by kernel_rfl
theorem glob_of_laid {W:World} (h:laidMetH Tryz.prog laid5 W):Glob W:=by
 rw[MakeChecks.laidMetH_plain _ _ _ (by kernel_rfl)] at h
 obtain⟨ps,⟨g1,t1,cs1,f1,p1,q1,hg1,ht1,hv1,hd1,⟨g2,t2,cs2,f2,p2,q2,hg2,ht2,hv2,hd2,⟨g3,t3,cs3,f3,p3,q3,hg3,ht3,hv3,hd3,⟨g4,t4,cs4,f4,p4,q4,hg4,ht4,hv4,hd4,⟨g5,t5,cs5,f5,p5,q5,hg5,ht5,hv5,hd5,_,_⟩,_⟩,_⟩,_⟩,_⟩,_⟩:=h
 obtain rfl:=Option.some.inj (gTab.symm.trans hg3)
 obtain rfl:=Option.some.inj (gRng.symm.trans hg4)
 obtain rfl:=Option.some.inj (gSyn.symm.trans hg5)
 obtain rfl:=Option.some.inj (tTab.symm.trans ht3)
 obtain rfl:=Option.some.inj (tRng.symm.trans ht4)
 obtain rfl:=Option.some.inj (tSyn.symm.trans ht5)
 have g6:6+1<=W.heap.size:=by
  have hg64:Tryz.prog.globalNamed "math/bits.deBruijn64tab" = some 4:=by kernel_rfl
  obtain rfl:=Option.some.inj (hg64.symm.trans hg2)
  have k2:4<W.heap.size:=by
   unfold World.var? at hv2
   simp only[hg64,Option.bind_some] at hv2
   rcases Nat.lt_or_ge 4 W.heap.size with h | h
   ·exact h
   ·rw[Array.getElem?_eq_none h] at hv2
    simp at hv2
  have k4:6<W.heap.size:=by
   unfold World.var? at hv4
   simp only[gRng,Option.bind_some] at hv4
   rcases Nat.lt_or_ge 6 W.heap.size with h | h
   ·exact h
   ·rw[Array.getElem?_eq_none h] at hv4
    simp at hv4
  omega
 obtain⟨u4,w4,e4⟩:=iface_of_trod (ms:=#[("Error",158)]) Tryz.underlying160 (show DataW.trod _ _ _ _ _ _ _ _ _=some (.iface _ _,_) from hd4)
 obtain⟨u5,w5,e5⟩:=iface_of_trod (ms:=#[("Error",158)]) Tryz.underlying160 (show DataW.trod _ _ _ _ _ _ _ _ _=some (.iface _ _,_) from hd5)
 have f4:cs4=#[.iface u4 w4]:=by cases cs4;simp_all
 have f5:cs5=#[.iface u5 w5]:=by cases cs5;simp_all
 have et:(Rows.laid_internal_strconv_uint64pow10:DataW Unit)=Lib.tabData .u64 Lib.pow10Tab:=by kernel_rfl
 rw[et] at hd3
 have hcs:=Lib.cells_of_tab Tryz.underlying387 Tryz.underlying293 cU64 cTab hd3
 refine⟨⟨u5,w5,by rw[hv5,f5]⟩,⟨u4,w4,by rw[hv4,f4]⟩,?_,g6⟩
 unfold Lib.TabIs
 rw[hv3,<-hcs]
set_option maxRecDepth 100000 in
theorem door_shaped (os:Os) (args:Array Value):((World.doorLaid Tryz.prog 100 os).forCall (fun _ _=>0) ⟨#[],args,[]⟩).Shaped Tryz.prog :=
 World.shaped_of_RefB (by kernel_rfl) (by kernel_rfl)
theorem wf_bounds {n:Int} (h:(Lit.int .i64 n).wf=true) : -9223372036854775808<=n/\n<=9223372036854775807:=by
 simp only[Lit.wf,Bool.and_eq_true,decide_eq_true_eq] at h
 have e1:IntKind.i64.min = -9223372036854775808:=by decide
 have e2:IntKind.i64.max=9223372036854775807:=by decide
 rw[e1,e2] at h
 exact h
end Go.Proofs.YtgopfpjinohncaaGreatDoor
namespace Go.Proofs.YtgopfpjinohncaaGreatDoor
open Go.ChangeShapes Go.WideShapes Go.ChangeAt Go.RowKit Go.Deep
set_option linter.unusedVariables false
theorem list_as {α β:Type} (f:α->β):∀ (l:List β),(∀ b∈l,∃ a,b=f a)->∃ m:List α,l=m.map f
 | [],_=>⟨[],rfl⟩
 | b::l,h=>by
   obtain⟨a,rfl⟩:=h b List.mem_cons_self
   obtain⟨m,rfl⟩:=list_as f l fun c hc=>h c (List.mem_cons_of_mem _ hc)
   exact⟨a::m,rfl⟩
theorem cells4 {cs:List Value} (h:cs.length=4):∃ a b c d,cs=[a,b,c,d]:=by
 match cs,h with
 | [a,b,c,d],_=>exact⟨a,b,c,d,rfl⟩
def Sz {H:Type} (P:Program) (t:TypeId) (d:DataW H):Prop:=∀ n∈DataW.weights P t d,n<=reachBytes
section
variable {H : Type} {enc : TypeId × Value -> H} {P : Program} {w : World} {spare : Nat -> Bool} {held : Bool}
theorem Sz.ofEach {ts:List TypeId} {ds:List (DataW H)} (h:(DataW.weightsEach P ts ds).all (· <= reachBytes)=true) {j:Nat} {t:TypeId} {d:DataW H} (ht:ts[j]? = some t) (hd:ds[j]? = some d):Sz P t d:=fun n hn=>by
 have:=List.all_eq_true.1 h n (DataW.weights_mem_each ht hd n hn)
 simpa using this
theorem Sz.field {t:TypeId} {fs:Array Field} {parts:List (DataW H)} (h:Sz P t (.agg parts)) (hu:P.underlying t=some (.struct fs)) {j:Nat} {u:TypeId} {d:DataW H} (hf:(fs.toList.map (·.type))[j]? = some u) (hd:parts[j]? = some d):Sz P u d:=fun n hn =>
 h n (by simp only[DataW.weights,hu];exact DataW.weights_mem_each hf hd n hn)
theorem weights_mem_all {e:TypeId}:∀ {el:List (DataW H)} {d:DataW H},d∈el->∀ n∈DataW.weights P e d,n∈DataW.weightsAll P e el
 | x::el,d,hd,n,hn=>by
   simp only[DataW.weightsAll,List.mem_append]
   rcases List.mem_cons.1 hd with rfl | hd
   ·exact .inl hn
   ·exact .inr (weights_mem_all hd n hn)
theorem Sz.elem {t e:TypeId} {el sp:List (DataW H)} (h:Sz P t (.slice el sp)) (hu:P.underlying t=some (.slice e)) {d:DataW H} (hd:d∈el):Sz P e d:=fun n hn =>
 h n (by simp only[DataW.weights,hu];exact List.mem_cons_of_mem _ (List.mem_append.2 (.inl (weights_mem_all hd n hn))))
theorem Sz.len {t e:TypeId} {el sp:List (DataW H)} (h:Sz P t (.slice el sp)) (hu:P.underlying t=some (.slice e)):el.length * P.bytesOf e<=140737488351232:=by
 have h1:=h ((el.length+sp.length) * P.bytesOf e) (by simp only[DataW.weights,hu];exact List.mem_cons_self)
 have hr:reachBytes=140737488351232:=by decide
 rw[hr,Nat.add_mul] at h1
 omega
theorem open_rows {t e:TypeId} {sz fuel:Nat} {v:Value} {x:DataW H × List MemPlace} (ht:P.underlying t=some (.slice e)) (hc:P.cellsOf e=sz) (hz:0<sz)
 (h:DataW.trod enc P w 0 spare held fuel t [v]=some x) (hb:∀ el sp,x.1=.slice el sp->el.length<=8796093022208) :
 ∃ rows:List (List Value),RowAt w v sz rows/\((rows=[]/\x.1=.nil)∨∃ el sp,x.1=.slice el sp/\el.length=rows.length /\
  ∀ (i:Nat) (row:List Value),rows[i]? = some row->row.length=sz/\∃ n d Pl,el[i]? = some d/\DataW.trod enc P w 0 spare held n e row=some (d,Pl)):=by
 rcases open_slice ht h with ⟨hcs,hx⟩ | ⟨a,len,cap,m,n,D,Pl,hcs,_,hl,hm,hmm,hx,hi⟩
 ·simp only[List.cons.injEq,and_true] at hcs
  subst hcs
  exact⟨[],RowAt.nil _ _,.inl ⟨rfl,by rw[hx]⟩⟩
 ·simp only[List.cons.injEq,and_true] at hcs
  subst hcs
  have hlm:len<=m:=by rw[hmm];split<;>omega
  have hlen:len<=8796093022208:=by
   have:=hb _ _ (by rw[hx])
   simpa using this
  obtain⟨R,hR⟩:=choose_lt (α:=List Value) (n:=len) (p:=fun i r=>w.cells? 0 (a.add (i * sz)) sz=some r/\DataW.trod enc P w 0 spare held n e r=some (D i,Pl i)) (fun i hil=>by
   obtain⟨cs',h1,h2⟩:=hi i (by omega)
   rw[hc] at h1
   exact⟨cs',h1,h2⟩)
  have hget:∀ (i:Nat) (row:List Value),((List.range len).map R)[i]? = some row->i<len/\row=R i:=by
   intro i row hr
   rw[List.getElem?_map] at hr
   rcases Nat.lt_or_ge i len with h1 | h1
   ·rw[List.getElem?_range h1] at hr
    simp only[Option.map_some,Option.some.injEq] at hr
    exact⟨h1,hr.symm⟩
   ·rw[List.getElem?_eq_none (by simpa using h1)] at hr
    simp at hr
  refine⟨(List.range len).map R,⟨by simpa using hlen,some a,cap,by simp,by simpa using hl,hm,?_⟩,.inr ⟨_,_,by rw[hx],by simp,fun i row hr=>?_⟩⟩
  ·by_cases h0:len=0
   ·subst h0
    exact .inl rfl
   ·right
    have h00:=(hR 0 (by omega)).1
    obtain⟨_,hcl,hat⟩:=World.cells?_some h00
    have hc0:=hat 0 hz
    have hv0:(R 0)[0]? = some ((R 0)[0]'(by omega)):=List.getElem?_eq_getElem (by omega)
    rw[hv0] at hc0
    obtain⟨b,off,spot⟩:=a
    have hspot:spot=none:=by simpa [Addr.add] using World.cell?_spot hc0
    subst hspot
    have hlt:b<w.heap.size:=by
     have:=World.block_lt_of_cell? w _ hc0
     simpa [Addr.add] using this
    refine⟨b,off,rfl,hlt,fun i j x u hx' hu=>?_⟩
    obtain⟨hil,rfl⟩:=hget i x hx'
    obtain⟨_,hcl',hat'⟩:=World.cells?_some (hR i hil).1
    have hj:=(List.getElem?_eq_some_iff.1 hu).1
    have h3:=hat' j (by omega)
    rw[hu,Go.Deep.add_add] at h3
    rw[<-h3]
    congr 1
    simp only[Addr.add]
    split<;>simp_all
  ·obtain⟨hil,rfl⟩:=hget i row hr
   obtain⟨_,hcl',_⟩:=World.cells?_some (hR i hil).1
   exact⟨hcl',n,D i,Pl i,by rw[List.getElem?_map,List.getElem?_range hil];rfl,(hR i hil).2⟩
end
section
variable {H : Type} {enc : TypeId × Value -> H} {w : World} {spare : Nat -> Bool} {held : Bool}
set_option maxRecDepth 100000 in
theorem vl_open {n:Nat} {row:List Value} {d:DataW H} {Pl:List MemPlace} (h:DataW.trod enc Tryz.prog w 0 spare held n 111 row=some (d,Pl)) :
 ∃ u:Vl,row=u.cells/\(-9223372036854775808<=u.n/\u.n<=9223372036854775807)/\d=.agg [.lit (.int .i64 u.k),.lit (.int .i64 u.n),.lit (.string u.t)]:=by
 obtain⟨y0,y1,y2,m,hx,hl,h0,h1,h2⟩:=trod_struct3 Tryz.underlying111 h
 have hc:Tryz.prog.cellsOf 111=3:=by kernel_rfl
 have c0:Tryz.prog.cellsOf 107=1:=by kernel_rfl
 have c1:Tryz.prog.cellsOf 2=1:=by kernel_rfl
 have c2:Tryz.prog.cellsOf 9=1:=by kernel_rfl
 rw[hc] at hl
 obtain⟨a,b,c,rfl⟩:=len3 hl
 ·simp only[c0,c1,c2,List.drop_zero,List.take_succ_cons,List.take_zero,List.drop_succ_cons] at h0 h1 h2
  obtain⟨k,e0,f0,_⟩:=DataW.trod_int Tryz.underlying107 h0
  obtain⟨q,e1,f1,wq⟩:=DataW.trod_int Tryz.underlying2 h1
  obtain⟨s,e2,f2,_⟩:=DataW.trod_string Tryz.underlying9 h2
  simp only[List.cons.injEq,and_true] at e0 e1 e2
  subst e0 e1 e2
  refine⟨⟨k,q,s.data.toList⟩,by simp [Vl.cells],wf_bounds wq,?_⟩
  simp only[Prod.mk.injEq] at hx
  rw[hx.1,f0,f1,f2]
set_option maxRecDepth 100000 in
theorem trm_open {n:Nat} {row:List Value} {d:DataW H} {Pl:List MemPlace} (h:DataW.trod enc Tryz.prog w 0 spare held n 113 row=some (d,Pl)) :
 ∃ t:Trm,row=t.cells/\(-9223372036854775808<=t.n/\t.n<=9223372036854775807)/\d=.agg [.lit (.string t.x),.agg [.lit (.int .i64 t.k),.lit (.int .i64 t.n),.lit (.string t.t)]]:=by
 obtain⟨y0,y1,m,hx,hl,h0,h1⟩:=trod_struct2 Tryz.underlying113 h
 have hc:Tryz.prog.cellsOf 113=4:=by kernel_rfl
 have c0:Tryz.prog.cellsOf 9=1:=by kernel_rfl
 have c1:Tryz.prog.cellsOf 111=3:=by kernel_rfl
 rw[hc] at hl
 obtain⟨a,b,c,e,rfl⟩:=cells4 hl
 ·simp only[c0,c1,List.drop_zero,List.take_succ_cons,List.take_zero,List.drop_succ_cons] at h0 h1
  obtain⟨s,e0,f0,_⟩:=DataW.trod_string Tryz.underlying9 h0
  obtain⟨u,e1,bu,f1⟩:=vl_open (d:=y1.1) (Pl:=y1.2) h1
  simp only[List.cons.injEq,and_true] at e0
  subst e0
  refine⟨⟨s.data.toList,u.k,u.n,u.t⟩,?_,bu,?_⟩
  ·simp only[Trm.cells]
   rw[show [Value.string s,b,c,e]=.string s::[b,c,e] from rfl,e1]
   simp [Vl.cells]
  ·simp only[Prod.mk.injEq] at hx
   rw[hx.1,f0,f1]
set_option maxRecDepth 100000 in
theorem vals_open {t:TypeId} {fuel:Nat} {v:Value} {x:DataW H × List MemPlace} (ht:Tryz.prog.underlying t=some (.slice 111)) (h:DataW.trod enc Tryz.prog w 0 spare held fuel t [v]=some x) (hs:Sz Tryz.prog t x.1) :
 ∃ vs:List Vl,RowAt w v 3 (vs.map Vl.cells)/\vs.length<=4398046511104/\∀ u∈vs,-9223372036854775808<=u.n/\u.n<=9223372036854775807:=by
 have hb:Tryz.prog.bytesOf 111=32:=by kernel_rfl
 obtain⟨rows,hr,hd⟩:=open_rows (sz:=3) ht (by kernel_rfl) (by decide) h (fun el sp e=>by
  have:=(e ▸ hs).len ht
  rw[hb] at this
  omega)
 rcases hd with ⟨rfl,_⟩ | ⟨el,sp,e,hl,hi⟩
 ·exact⟨[],hr,Nat.zero_le _,by simp⟩
 ·have hle:=(e ▸ hs).len ht
  rw[hb,hl] at hle
  obtain⟨m,hm⟩:=list_as (α := {u:Vl // -9223372036854775808<=u.n/\u.n<=9223372036854775807}) (fun u=>u.1.cells) rows (fun row hrow=>by
   obtain⟨i,hi'⟩:=List.getElem?_of_mem hrow
   obtain⟨_,n,d,Pl,_,h2⟩:=hi i row hi'
   obtain⟨u,h3,h4,_⟩:=vl_open h2
   exact⟨⟨u,h4⟩,h3⟩)
  subst hm
  refine⟨m.map (·.1),by simpa [Function.comp_def] using hr,by simp at hle ⊢;omega,fun u hu=>?_⟩
  obtain⟨q,_,rfl⟩:=List.mem_map.1 hu
  exact q.2
theorem all2_of {α β:Type} (R:α->β->Prop):∀ (l:List α),(∀ a∈l,∃ b,R a b)->∃ m:List β,All2 R l m
 | [],_=>⟨[],trivial⟩
 | a::l,h=>by
   obtain⟨b,hb⟩:=h a List.mem_cons_self
   obtain⟨m,hm⟩:=all2_of R l fun c hc=>h c (List.mem_cons_of_mem _ hc)
   exact⟨b::m,hb,hm⟩
end
end Go.Proofs.YtgopfpjinohncaaGreatDoor
