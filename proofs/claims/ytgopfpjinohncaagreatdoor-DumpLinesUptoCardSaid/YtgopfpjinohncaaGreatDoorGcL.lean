/- query.Parse's door, and a line that Open refuses. The read lists of query.Parse: atoms; what lies where. query.Parse's end: small facts, the door of a frame that returns. The document's line and its reading of a query, plainly; it tells what the program's reading tells. append of a whole row that can be read: no program in sight. osierref09.At, In, SameTexts, AtomVars, walked. osierref09.AtomVars, -/
import Derived.Test.YtgopfpjinohncaaGreatDoorGaL
import Derived.Test.YtgopfpjinohncaaGreatDoorGbL
import Derived.Test.YtgopfpjinohncaaGreatDoorGnL
import Derived.Defers
import Derived.Recover
import Derived.Deep.RegionHeld3
import Derived.Deep.AppendLies
import Derived.OwnWalk
namespace Go.Proofs.YtgopfpjinohncaaGreatDoor
open Go.RowKit
set_option linter.unusedVariables false
def AtomsOwn (B:Nat) (w:World) (v:Value) (al:List Atm):Prop :=
 ∃ rows:List (List Value),w.ownsRow B 105 2 v al.length rows.flatten/\All2 (fun row (a:Atm)=>∃ tv,row=[.string ⟨a.rel.toArray⟩,tv]/\w.ownsRow B 113 4 tv a.ts.length (a.ts.flatMap Trm.cells)) rows al
theorem map_flat {α:Type} (f:α->List Value) (l:List α):(l.map f).flatten=l.flatMap f:=by
 induction l with
 | nil=>rfl
 | cons a l ih=>simp [ih]
theorem all2_and {α β:Type} {R S:β->α->Prop}:∀ {bs:List β} {al:List α},All2 R bs al->(∀ b a,a∈al->R b a->S b a)->All2 S bs al
 | [],[],_,_=>trivial
 | _::_,_::_,h,hs=>⟨hs _ _ List.mem_cons_self h.1,all2_and h.2 fun b a ha=>hs b a (List.mem_cons_of_mem _ ha)⟩
 | [],_::_,h,_=>h.elim
 | _::_,[],h,_=>h.elim
theorem all2_mem {α β:Type} {R:β->α->Prop}:∀ {bs:List β} {al:List α},All2 R bs al->∀ b∈bs,∃ a,a∈al/\R b a
 | [],[],_,b,hb=>by simp at hb
 | b0::_,a0::_,h,b,hb=>by
   rcases List.mem_cons.1 hb with rfl | hb
   ·exact⟨a0,List.mem_cons_self,h.1⟩
   ·obtain⟨a,ha,hr⟩:=all2_mem h.2 b hb
    exact⟨a,List.mem_cons_of_mem _ ha,hr⟩
 | [],_::_,h,_,_=>h.elim
 | _::_,[],h,_,_=>h.elim
def AtmO (B:Nat) (w:World) (row:List Value) (a:Atm):Prop:=∃ tv,row=[.string ⟨a.rel.toArray⟩,tv]/\w.ownsRow B 113 4 tv a.ts.length (a.ts.flatMap Trm.cells)
theorem AtmO.mt {B B':Nat} {w w':World} {row:List Value} {a:Atm} {Ts:List TypeId} (h:AtmO B w row a) (hm:MT B' Ts w w') (ht:113 ∉ Ts):AtmO B w' row a:=by
 obtain⟨tv,rfl,h2⟩:=h
 exact⟨tv,rfl,hm.ownsRow h2 ht⟩
theorem Tryz.infoTrm:(Tryz.prog.info? 113).map (fun i=>(i.zero,i.size,i.bytes))=some (some (.agg #[.string ⟨#[]⟩,.int .i64 0,.int .i64 0,.string ⟨#[]⟩]),4,48):=by kernel_rfl
theorem Tryz.infoAtm:(Tryz.prog.info? 105).map (fun i=>(i.zero,i.size,i.bytes))=some (some (.agg #[.string ⟨#[]⟩,.slice none 0 0]),2,40):=by kernel_rfl
inductive LS where
 | bad (a e:Int)
 | ok (c:List Tok)
def headT:List Tok->Tok
 | []=>tok0
 | t::_=>t
def wantT (k:Int) (x:List UInt8) (c:List Tok):Tok × LS:=if (headT c).k=k/\(x=[]∨(headT c).x=x) then (headT c,.ok (c.drop 1)) else (tok0,.bad (headT c).p 80)
def wantS (k:Int) (x:List UInt8):LS->Tok × LS
 | .bad a e=>(tok0,.bad a e)
 | .ok c=>wantT k x c
def isT (k:Int) (x:List UInt8) (c:List Tok):Bool:=decide ((headT c).k=k/\(headT c).x=x)
def moreS (n:Nat):LS->Bool × LS
 | .bad a e=>(false,.bad a e)
 | .ok c=>if n=0 then (!isT 3 [41] c,.ok c) else if isT 3 [44] c=true then (true,.ok (c.drop 1)) else (false,.ok c)
def failS (a e:Int):LS->LS
 | .bad a' e'=>.bad a' e'
 | .ok _=>.bad a e
def meas:LS->Nat
 | .bad _ _=>0
 | .ok c=>c.length+1
section
variable {α : Type}
def gloop (step:LS->α × LS):Nat->LS->List α->LS × List α
 | 0,s,ys=>(s,ys)
 | f+1,s,ys=>if (moreS ys.length s).1=true then gloop step f (step (moreS ys.length s).2).2 (ys++[(step (moreS ys.length s).2).1]) else (s,ys)
def listS (step:LS->α × LS) (s:LS):List α × LS :=
 ((gloop step (meas (wantS 3 [40] s).2+1) (wantS 3 [40] s).2 []).2,(wantS 3 [41] (gloop step (meas (wantS 3 [40] s).2+1) (wantS 3 [40] s).2 []).1).2)
end
abbrev NmP:=List UInt8 × Int
def nameS (s:LS):NmP × LS:=(((wantS 1 [] s).1.x,(wantS 1 [] s).1.p),(wantS 1 [] s).2)
def termS:LS->(Trm × Int) × LS
 | .bad a e=>((⟨[],0,0,[]⟩,0),.bad a e)
 | .ok c=>if (headT c).k=2 then ((⟨[],(headT c).vk,(headT c).vn,(headT c).vt⟩,(headT c).p),(wantT 2 [] c).2) else ((⟨(wantT 1 [] c).1.x,0,0,[]⟩,(headT c).p),(wantT 1 [] c).2)
def atomS (s:LS):AtP × LS:=(((nameS s).1,(listS termS (nameS s).2).1),(listS termS (nameS s).2).2)
def overOf (l:List AtP):List Int:=l.filterMap fun a=>a.2[5]?.map (·.2)
def limS (l:List AtP) (s:LS):LS:=match l[6]? with
 | some a=>failS a.1.2 90 s
 | none=>s
def overS (l:List AtP) (s:LS):LS:=match (overOf l)[0]? with
 | some p=>failS p 91 s
 | none=>s
def dupS (hs:List NmP):Nat->Nat->LS->LS
 | 0,_,s=>s
 | m+1,k,s=>dupS hs m (k+1) (match hs[k]? with
   | some h=>if idxI (hs.map (·.1)) h.1<k then failS h.2 92 s else s
   | none=>s)
def lackS (V:List (List UInt8)) (hs:List NmP):Nat->Nat->LS->LS
 | 0,_,s=>s
 | m+1,k,s=>match s with
   | .bad a e=>.bad a e
   | .ok c=>lackS V hs m (k+1) (match hs[k]? with
     | some h=>if h.1∈V then .ok c else .bad h.2 93
     | none=>.ok c)
def atomsS (s:LS):LS × List AtP:=gloop atomS (meas (atomS s).2) (atomS s).2 [(atomS s).1]
def endS (n:NmP) (hs:List NmP) (l:List AtP) (s:LS):LS :=
 lackS (qVars (qryOf n hs l).atoms) hs hs.length 0 (dupS hs hs.length 0 (overS l (limS l s)))
def outS (s:LS) (q:Qry):PR Qry:=match s with
 | .bad a e=>.bad a e
 | .ok _=>.ok q []
variable {P : Program}
theorem RowAt.flat {w:World} {b off n cap sz:Nat} {xs:List (List Value)} (hx:RowAt w (.slice (some ⟨b,off,none⟩) n cap) sz xs) (hl:∀ x∈xs,x.length=sz) :
 ∀ j v,xs.flatten[j]? = some v->w.cell? ((⟨b,off,none⟩:Addr).add j)=some v:=by
 have hfl:=flatten_len hl
 intro j v hj
 have hadd:(⟨b,off,none⟩:Addr).add j=⟨b,off+j,none⟩:=by unfold Addr.add;split<;>simp_all
 rw[hadd]
 have hjl:=(List.getElem?_eq_some_iff.1 hj).1
 rw[hfl] at hjl
 have hszp:0<sz:=by
  rcases Nat.eq_zero_or_pos sz with e | e
  ·subst e;simp at hjl
  ·exact e
 have hq:j / sz<xs.length:=Nat.div_lt_of_lt_mul (by rw[Nat.mul_comm];exact hjl)
 have hr:j % sz<sz:=Nat.mod_lt _ hszp
 obtain⟨x,hxj⟩:∃ x,xs[j / sz]? = some x:=⟨xs[j / sz]'(by omega),List.getElem?_eq_getElem (by omega)⟩
 have hxl:=hl x (List.mem_of_getElem? hxj)
 obtain⟨u,hu'⟩:∃ u,x[j % sz]? = some u:=⟨x[j % sz]'(by omega),List.getElem?_eq_getElem (by omega)⟩
 have hfa:=flatten_at hl hxj hu'
 have hjj:j / sz * sz+j % sz=j:=by rw[Nat.mul_comm];exact Nat.div_add_mod j sz
 rw[hjj,hj] at hfa
 obtain⟨b',off',cap3,hv3,_,_,_,hcell⟩:=hx.get hxj
 simp only[Value.slice.injEq,Option.some.injEq,Addr.mk.injEq,and_true] at hv3
 obtain⟨⟨rfl,rfl⟩,_,rfl⟩:=hv3
 have:=hcell (j % sz) u hu'
 rw[Nat.add_assoc,hjj] at this
 rw[this,hfa]
theorem run_append_zero {w:World} (base:Nat) (t ty e:TypeId) (i:TypeInfo) (size:Nat) (ht:P.underlying t=some (.slice e)) (hi:P.info? e=some i)
 (v:Value) (n:Nat) (xs:List Value) (hown:w.ownsRow base e size v n xs) (ad:Option Addr) (c:Nat) :
 (Builtin.append_ #[t,t] ty #[v,.slice ad 0 c]).run P w=.ok v w:=by
 cases ad with
 | none =>
   rcases hown.2 with ⟨rfl,rfl⟩ | ⟨g,cap,cur,rfl,_,_,hnc,_⟩ <;>
    simp [Builtin.append_,run_underlying ht,sizeOf,typeInfo,Builtin.lenOf,Builtin.firstCells,storeCells, *]
 | some ad =>
   have hl:∀ (x:Addr),(loadCells x 0).run P w=.ok #[] w:=fun x=>by simpa using run_loadCells_list (P:=P) w x [] (by simp)
   rcases hown.2 with ⟨rfl,rfl⟩ | ⟨g,cap,cur,rfl,_,_,hnc,_⟩ <;>
    simp [Builtin.append_,run_underlying ht,sizeOf,typeInfo,Builtin.lenOf,Builtin.firstCells,storeCells, *]
theorem wp_append_row {w:World} {o:Oper} {a:Act} {K:Act->World->Prop} {Q:Exit->Act->World->Prop} (s x:Operand) (t:TypeId)
 (ho:o.op=.call { callee:=.builtin .append,args:=#[s,x],argTypes:=#[t,t] })
 (base:Nat) (e:TypeId) (i:TypeInfo) (z:Value) (size bytes:Nat) (ht:P.underlying t=some (.slice e)) (hi:P.info? e=some i) (hz:i.zero=some z)
 (hsize:i.size=size) (hby:i.bytes=bytes) (hzs:z.cells.size=size) (hsz:0<size)
 (v:Value) (n:Nat) (cur:List Value) (hs:a.eval s=v) (hown:w.ownsRow base e size v n cur)
 (xv:Value) (hx:a.eval x=xv) (xs:List (List Value)) (hrow:RowAt w xv size xs) (hl:∀ x∈xs,x.length=size) (h1:∀ x∈xs,∀ u∈x,u.oneCell'=true)
 (h63:n+xs.length<=maxLen) (hbytes:(n+xs.length) * bytes<=140737488355328) (hbase:base<=w.heap.size)
 (h:∀ v' w',w'.ownsRow base e size v' (n+xs.length) (cur++xs.flatten)->w.grownBy w' v.ownBlock->K (a.put o.dst v') w'):o.wp P a w K Q:=by
 by_cases h0:xs=[]
 ·subst h0
  obtain⟨ad,cap,rfl,_,_⟩:=hrow.form
  have hr:=run_append_zero (P:=P) base t o.type e i size ht hi v n cur hown ad cap
  unfold Oper.wp execOp
  simp only[ho,resolve,invoke,builtin,Sem.run_bind,Sem.run_pure,Result.andThen_ok,List.map_toArray,List.map_cons,List.map_nil,hs,hx,List.length_nil,hr]
  exact h v w (by simpa using hown) ⟨rfl,rfl,rfl,Nat.le_refl _,fun _ _ _=>rfl⟩
 ·obtain⟨x0,hx0⟩:∃ x0,xs[0]? = some x0:=⟨xs[0]'(by have:=List.length_pos_iff.2 h0;omega),List.getElem?_eq_getElem (by have:=List.length_pos_iff.2 h0;omega)⟩
  obtain⟨b,off,cap,rfl,_,_,_,_⟩:=hrow.get hx0
  refine wp_append_lies w s x t ho base e i z size bytes ht hi hz hsize hby hzs hsz v n cur hs hown ⟨b,off,none⟩ xs.length cap xs.flatten hx (flatten_len hl) (hrow.flat hl) (by
   intro u hu
   obtain⟨x,hxm,hvx⟩:=List.mem_flatten.1 hu
   exact h1 x hxm u hvx) (List.length_pos_iff.2 h0) h63 hbytes hbase _ rfl ?_
  intro g cap' w' h2 h3 _ _
  exact h _ w' h2 h3
theorem step_append_row {w:World} {ops:Array Oper} {o:Oper} {a:Act} {K:Act->World->Prop} {Q:Exit->Act->World->Prop} {E:Prop} (hgd:o.guard=none) (s x:Operand) (t:TypeId)
 (ho:o.op=.call { callee:=.builtin .append,args:=#[s,x],argTypes:=#[t,t] })
 (base:Nat) (e:TypeId) (i:TypeInfo) (z:Value) (size bytes:Nat) (ht:P.underlying t=some (.slice e)) (hi:P.info? e=some i) (hz:i.zero=some z)
 (hsize:i.size=size) (hby:i.bytes=bytes) (hzs:z.cells.size=size) (hsz:0<size)
 (v:Value) (n:Nat) (cur:List Value) (hs:a.eval s=v) (hown:w.ownsRow base e size v n cur)
 (xv:Value) (hx:a.eval x=xv) (xs:List (List Value)) (hrow:RowAt w xv size xs) (hl:∀ x∈xs,x.length=size) (h1:∀ x∈xs,∀ u∈x,u.oneCell'=true)
 (h63:n+xs.length<=maxLen) (hbytes:(n+xs.length) * bytes<=140737488355328) (hbase:base<=w.heap.size)
 (h:∀ v' w',w'.ownsRow base e size v' (n+xs.length) (cur++xs.flatten)->w.grownBy w' v.ownBlock->K (a.put o.dst v') w') :
 if Region.wanted o (yielded ops a.tmps)=true then Oper.wp P o a w K Q else E:=by
 have hw:Region.wanted o (yielded ops a.tmps)=true:=by simp [Region.wanted,hgd]
 rw[if_pos hw]
 exact wp_append_row s x t ho base e i z size bytes ht hi hz hsize hby hzs hsz v n cur hs hown xv hx xs hrow hl h1 h63 hbytes hbase h
set_option maxHeartbeats 4000000 in
set_option maxRecDepth 100000 in
theorem refAt_any (w:World) (v:Value) (l:List (List UInt8)) (s:List UInt8) (h:StrsAt w v l) :
 Calls Tryz.prog 51 #[v,.string ⟨s.toArray⟩] w fun e w'=>e=.returned (.int .i64 (idxI l s))/\w=w':=by
 obtain⟨ad,cap,rfl,hnc,hcm⟩:=h.form
 have hln:=h.len
 have HR:=Lib.hid h
 unfold maxLen at hcm
 generalize hn:l.length=n at *
 have HN:=Lib.hid hn
 clear h hn
 go_enter Tryz.func51,Tryz.ntmps51
 go_wp2_with fail
 go_loop [5] (fun i=>∃ k:Nat,k<=n/\i=.int .i64 k/\Hid (s ∉ l.take k)) (fun i=>n - (intOf i).toNat)
 case atStart=>exact⟨0,Nat.zero_le _,rfl,Lib.hid (by simp)⟩
 case round =>
  obtain⟨k,hk,rfl,HP⟩:=hrel
  by_cases hlt:k<n
  ·obtain⟨x,hx⟩:∃ x,l[k]? = some x:=⟨l[k]'(by rw[HN.out];exact hlt),List.getElem?_eq_getElem (by rw[HN.out];exact hlt)⟩
   obtain⟨b,off,cap',hv,_,_,hbl,hce⟩:=HR.out.get hx
   rw[HN.out] at hv
   simp only[Value.slice.injEq,true_and] at hv
   obtain⟨rfl,rfl⟩:=hv
   have HX:=Lib.hid hx
   clear hx
   by_cases hq:s=x
   ·subst hq
    go_wp2_with fail
    go_ret
    exact⟨by rw[idxI_hit HX.out HP.out];rfl,rfl⟩
   ·have hq2:¬ ((⟨x.toArray⟩:ByteArray)=⟨s.toArray⟩):=fun e=>hq (bytes_eq.1 e).symm
    have hq3:(x == s)=false:=by simpa using fun e=>hq (Eq.symm e)
    have HQ:=Lib.hid hq
    clear hq
    go_wp2_with fail
    go_round
    case rel =>
     refine⟨k+1,by omega,by go_num,Lib.hid ?_⟩
     rw[List.take_add_one,HX.out]
     simp
     exact⟨HP.out,HQ.out⟩
    case measure=>simp [intOf];omega
  ·obtain rfl:k=n:=by omega
   go_wp2_with fail
   go_ret
   have hp:=HP.out
   rw[List.take_of_length_le (by rw[HN.out];exact Nat.le_refl _)] at hp
   exact⟨by rw[idxI_miss hp];rfl,rfl⟩
set_option maxHeartbeats 4000000 in
set_option maxRecDepth 100000 in
theorem refIn_any (w:World) (v:Value) (l:List (List UInt8)) (s:List UInt8) (h:StrsAt w v l) :
 Calls Tryz.prog 124 #[v,.string ⟨s.toArray⟩] w fun e w'=>e=.returned (.bool (decide (s∈l)))/\w=w':=by
 have HI:=Lib.hid (refAt_any w v l s h)
 have HA:=Lib.hid (idxI_any l s)
 clear h
 go_enter Tryz.func124,Tryz.ntmps124
 go_wp2_with fail
 refine HI.out.mono ?_
 rintro e w' ⟨rfl,rfl⟩
 generalize idxI l s=q at *
 go_wp2_with fail
 go_ret
 exact⟨by rw[<-HA.out];rfl,rfl⟩
theorem list_eq_step {a b:List (List UInt8)} (hl:a.length=b.length) (h:∀ k,k<a.length->a[k]? = b[k]?):a=b:=by
 apply List.ext_getElem?
 intro k
 rcases Nat.lt_or_ge k a.length with h1 | h1
 ·exact h k h1
 ·rw[List.getElem?_eq_none h1,List.getElem?_eq_none (by omega)]
set_option maxHeartbeats 4000000 in
set_option maxRecDepth 100000 in
theorem sameTexts_any (w:World) (va vb:Value) (a b:List (List UInt8)) (ha:StrsAt w va a) (hb:StrsAt w vb b) :
 Calls Tryz.prog 38 #[va,vb] w fun e w'=>e=.returned (.bool (decide (a=b)))/\Below w.heap.size w w':=by
 obtain⟨aa,ac,rfl,hac,ham⟩:=ha.form
 obtain⟨ba,bc,rfl,hbc,hbm⟩:=hb.form
 have hla:=ha.len
 have hlb:=hb.len
 unfold maxLen at ham hbm
 have HA:=Lib.hid ha
 have HB:=Lib.hid hb
 clear ha hb
 by_cases hl:a.length=b.length
 ·generalize hna:a.length=n at *
  generalize hnb:b.length=m at *
  subst hl
  have HL:=Lib.hid hna
  have HN:=Lib.hid hnb
  clear hna hnb
  go_enter Tryz.func38,Tryz.ntmps38
  go_wp2_with fail
  go_loopw [5] (fun i wr=>∃ k:Nat,k<=n/\i=.int .i64 k/\Hid (Below w.heap.size w wr)/\Hid (∀ j,j<k->a[j]? = b[j]?)) (fun i _=>n - (intOf i).toNat)
  case atStart=>exact⟨0,Nat.zero_le _,rfl,Lib.hid (Below.refl _ _),Lib.hid (by simp)⟩
  case round =>
   obtain⟨k,hk,rfl,BW,HP⟩:=hrel
   by_cases hlt:k<n
   ·obtain⟨x,hx⟩:∃ x,a[k]? = some x:=⟨a[k]'(by rw[HL.out];exact hlt),List.getElem?_eq_getElem (by rw[HL.out];exact hlt)⟩
    obtain⟨y,hy⟩:∃ y,b[k]? = some y:=⟨b[k]'(by rw[HN.out];exact hlt),List.getElem?_eq_getElem (by rw[HN.out];exact hlt)⟩
    obtain⟨b1,o1,c1,hv1,_,_,hbl1,k1⟩:=(HA.out.keep BW.out).get hx
    obtain⟨b2,o2,c2,hv2,_,_,hbl2,k2⟩:=(HB.out.keep BW.out).get hy
    rw[HL.out] at hv1
    rw[HN.out] at hv2
    simp only[Value.slice.injEq,true_and] at hv1 hv2
    obtain⟨rfl,rfl⟩:=hv1
    obtain⟨rfl,rfl⟩:=hv2
    have hd:decide ((k:Int)<0)=false:=by simp
    have hd2:decide ((n:Int)<=(k:Int))=false:=by simp;omega
    have HX:=Lib.hid hx
    have HY:=Lib.hid hy
    clear hx hy
    by_cases hq:x=y
    ·subst hq
     go_wp2_with fail
     go_quiet (fail)
     go_wp2_with fail
     go_roundw
     case rel =>
      refine⟨k+1,by omega,by go_num,Lib.hid (bdrewN BW.out _),Lib.hid fun j hj=>?_⟩
      rcases Nat.lt_or_ge j k with h | h
      ·exact HP.out j h
      ·obtain rfl:j=k:=by omega
       rw[HX.out,HY.out]
     case measure=>simp [intOf];omega
    ·have hq2:¬ ((⟨x.toArray⟩:ByteArray)=⟨y.toArray⟩):=fun e=>hq (bytes_eq.1 e)
     have hq3:(x == y)=false:=by simpa using hq
     have hne:a≠b:=fun e=>hq (by have:=HX.out;rw[e,HY.out] at this;exact (Option.some.inj this).symm)
     have HNE:=Lib.hid hne
     clear hq hne
     go_wp2_with fail
     go_quiet (fail)
     go_wp2_with fail
     go_ret
     exact⟨by rw[decide_eq_false HNE.out];rfl,bdrewN BW.out _⟩
   ·obtain rfl:k=n:=by omega
    have heq:a=b:=list_eq_step (by rw[HL.out,HN.out]) (fun j hj=>HP.out j (by rw[HL.out] at hj;exact hj))
    have HEQ:=Lib.hid heq
    clear heq
    go_wp2_with fail
    go_ret
    exact⟨by rw[decide_eq_true HEQ.out];rfl,BW.out⟩
 ·have hne:a≠b:=fun e=>hl (by rw[e])
  rw[decide_eq_false hne]
  have hq:((a.length:Int) == (b.length:Int))=false:=by rw[beq_eq_false_iff_ne];omega
  have hq2:((a.length:Int) != (b.length:Int))=true:=by simp [bne,hq]
  clear hne
  go_enter Tryz.func38,Tryz.ntmps38
  go_wp2_with fail
  go_ret
  exact⟨rfl,Below.refl _ _⟩
set_option maxHeartbeats 8000000 in
set_option maxRecDepth 100000 in
theorem refAtomVars_any (w:World) (rel:ByteArray) (tv:Value) (ts:List Trm) (h:RowAt w tv 4 (ts.map Trm.cells)) (hn:ts.length<=2932031007317) :
 Calls Tryz.prog 195 #[.agg #[.string rel,tv]] w fun e w'=>∃ v,e=.returned v/\OwnS w.heap.size w' v (atomVars ts)/\Below w.heap.size w w':=by
 obtain⟨i0,hi0,hz0,hz1,hz2⟩:=info_parts Tryz.infoStr
 obtain⟨ad,cap,rfl,hnc,hcm⟩:=h.form
 have hln:=h.len
 unfold maxLen at hcm
 simp only[List.length_map] at hnc hln ⊢
 have HR:=Lib.hid h
 generalize hN:ts.length=n at *
 have HN:=Lib.hid hN
 clear h hN
 have bx:=Blk.new w 105 #[.string rel,.slice ad n cap]
 have hW0:(w.alloc (.cells #[.string rel,.slice ad n cap] 105)).heap.size=w.heap.size+1:=by simp
 have hB0:Below w.heap.size w (w.alloc (.cells #[.string rel,.slice ad n cap] 105)):=balloc (Below.refl _ _) _
 have HR0:=Lib.hid (HR.out.keep hB0)
 have HB0:=Lib.hid hB0
 have BX:=Lib.hid bx
 have HW0:=Lib.hid hW0
 clear bx hW0 hB0
 go_enter Tryz.func195,Tryz.ntmps195
 go_wp2_with fail
 obtain⟨W0,hW0⟩:∃ W0,W0=w.alloc (.cells #[.string rel,.slice ad n cap] 105):=⟨_,rfl⟩
 rw[<-hW0] at HW0 HB0 BX HR0 ⊢
 clear hW0
 go_loopw [3,4] (fun v i wr=>∃ (k:Nat) (o:List (List UInt8)) (oa:Option Addr) (oc:Nat),k<=n/\i=.int .i64 k/\v=.slice oa o.length oc/\Hid (OwnS (w.heap.size+1) wr (.slice oa o.length oc) o)/\Hid (Below (w.heap.size+1) W0 wr)/\Hid (o=(ts.take k).foldl addV [])/\o.length<=k) (fun _ i _=>n - (intOf i).toNat)
 case atStart=>exact⟨0,[],none,0,Nat.zero_le _,rfl,rfl,Lib.hid (World.ownsRow_nil _ _ _ _),Lib.hid (Below.refl _ _),Lib.hid rfl,Nat.zero_le _⟩
 case round =>
  obtain⟨k,o,oa,oc,hk,rfl,rfl,OW,HB,HE,hol⟩:=hrel
  have bx:=BX.out.below HB.out (by omega)
  have bx0:=bx.cell 0
  have bx1:=bx.cell 1
  simp only[List.getElem?_toArray,List.getElem?_cons_zero,List.getElem?_cons_succ] at bx0 bx1
  have hbz:=HB.out.size
  rw[HW0.out] at hbz
  clear bx
  by_cases hlt:k<n
  ·obtain⟨t,ht⟩:∃ t,ts[k]? = some t:=⟨ts[k]'(by rw[HN.out];exact hlt),List.getElem?_eq_getElem (by rw[HN.out];exact hlt)⟩
   obtain⟨b,off,cap',hv,_,_,hbl,hce⟩:=(HR0.out.keep (HW0.out.symm ▸ HB.out)).get (i:=k) (x:=t.cells) (by simp [ht])
   simp only[List.length_map,HN.out,Value.slice.injEq,true_and] at hv
   obtain⟨rfl,rfl⟩:=hv
   have q0:=hce 0 _ rfl
   have q1:=hce 1 _ rfl
   have q2:=hce 2 _ rfl
   have q3:=hce 3 _ rfl
   simp only[Nat.add_zero] at q0
   have hst:=foldl_take_succ addV [] ts k t ht
   rw[<-HE.out] at hst
   have HST:=Lib.hid hst
   clear hce ht hst
   by_cases hx:t.x=[]
   ·have hadd:addV o t=o:=by unfold addV;rw[if_pos hx]
    rw[hx] at q0
    have HA:=Lib.hid hadd
    clear hx hadd
    go_wp2_with fail
    go_roundw
    case rel=>exact⟨k+1,o,oa,oc,by omega,by go_num,rfl,OW,HB,Lib.hid (by rw[HST.out,HA.out]),by omega⟩
    case measure=>simp [intOf];omega
   ·have hct:=refIn_any wr _ o t.x (OW.out.strs (by omega))
    have he:=ba_empty hx
    have he2:t.x.isEmpty=false:=by
     cases hxx:t.x with
     | nil=>exact absurd hxx hx
     | cons _ _=>rfl
    have he3:(!t.x.isEmpty)=true:=by rw[he2];rfl
    have HX:=Lib.hid hx
    by_cases hm:t.x∈o
    ·have hadd:addV o t=o:=by unfold addV addN;rw[if_neg hx,if_pos hm]
     rw[decide_eq_true hm] at hct
     have HA:=Lib.hid hadd
     have HC:=Lib.hid hct
     have OWX:=Lib.hid (show wr.ownsRow (w.heap.size+1) 9 1 (.slice oa o.length oc) o.length (o.map fun s=>.string ⟨s.toArray⟩) from OW.out)
     clear hx hadd hm hct
     go_wp2_with fail
     refine HC.out.mono ?_
     rintro e w2 ⟨rfl,rfl⟩
     go_wp2_with fail
     go_roundw
     case rel=>exact⟨k+1,o,oa,oc,by omega,by go_num,rfl,OW,HB,Lib.hid (by rw[HST.out,HA.out]),by omega⟩
     case measure=>simp [intOf];omega
    ·have hadd:addV o t=o++[t.x]:=by unfold addV addN;rw[if_neg hx,if_neg hm]
     rw[decide_eq_false hm] at hct
     have HA:=Lib.hid hadd
     have HC:=Lib.hid hct
     have OWX:=Lib.hid (show wr.ownsRow (w.heap.size+1) 9 1 (.slice oa o.length oc) o.length (o.map fun s=>.string ⟨s.toArray⟩) from OW.out)
     clear hx hadd hm hct
     go_wp2_with fail
     refine HC.out.mono ?_
     rintro e w2 ⟨rfl,rfl⟩
     go_wp2_with (at_builtin;refine wpList_append_lies _ rfl (.tmp 30) (.tmp 37) 28 rfl (w.heap.size+1) 9 i0 (.string ⟨#[]⟩) 1 16 Tryz.underlying28 hi0 hz0 hz1 hz2 rfl (by decide) (.slice oa o.length oc) o.length _ rfl (OWX.out.alloc _) ⟨_,0,none⟩ 1 1 [.string ⟨t.x.toArray⟩] rfl rfl (World.news_of_block (Blk.new _ _ _)) (by simp [Value.oneCell']) (by decide) ?c3 ?c5 ?c4 _ rfl ?_)
     case c3=>unfold maxLen;omega
     case c5=>omega
     case c4=>simp;omega
     intro g cap1 w3 hown2 hgrow2 hat2 hlt2
     have hb3:Below (w.heap.size+1) W0 w3:=(HB.out.alloc hbz _).grown hgrow2 (by simp;omega) (fun q hq=>(OW.out.lt q hq).1)
     have HO:=Lib.hid hown2
     have HB3:=Lib.hid hb3
     clear hown2 hgrow2 hat2 hlt2 hb3
     go_wp2_with fail
     go_roundw
     case rel =>
      refine⟨k+1,o++[t.x],some ⟨g,0,none⟩,cap1,by omega,by go_num,by simp,Lib.hid ?_,HB3,Lib.hid (by rw[HST.out,HA.out]),by simp;omega⟩
      unfold OwnS
      have:=HO.out
      simpa using this
     case measure=>simp [intOf];omega
  ·obtain rfl:k=n:=by omega
   go_wp2_with fail
   go_ret
   refine⟨_,rfl,?_,HB0.out.trans (HB.out.mono (by omega))⟩
   have he:=HE.out
   rw[List.take_of_length_le (by rw[HN.out];exact Nat.le_refl _)] at he
   unfold atomVars
   rw[<-he]
   exact World.ownsRow.low OW.out (by omega)
def allTs (al:List Atm):List Trm:=al.flatMap (·.ts)
theorem allTs_len (al:List Atm):(allTs al).length=tsum al:=by
 unfold allTs tsum
 rw[List.length_flatMap]
theorem mem_addN {o:List (List UInt8)} {x y:List UInt8}:y∈addN o x ↔ y∈o∨y=x:=by
 unfold addN
 split
 ·constructor
  ·exact .inl
  ·rintro (h | rfl)<;>assumption
 ·simp
theorem mem_foldN {y:List UInt8}:∀ (l o:List (List UInt8)),y∈l.foldl addN o ↔ y∈o∨y∈l
 | [],o=>by simp
 | x::l,o=>by
   rw[List.foldl_cons,mem_foldN l,mem_addN]
   simp [or_assoc]
theorem foldV_N (ts:List Trm) (o:List (List UInt8)):∀ n,ts.length=n->ts.foldl addV o=(atomVars ts).foldl addN o:=by
 intro n
 induction n generalizing ts with
 | zero =>
   intro h
   have:ts=[]:=List.eq_nil_of_length_eq_zero h
   subst this
   rfl
 | succ n ih =>
   intro h
   obtain⟨l,t,rfl⟩:∃ l t,ts=l++[t]:=⟨ts.dropLast,ts.getLast (by intro e;simp [e] at h),(List.dropLast_concat_getLast _).symm⟩
   have hl:l.length=n:=by simpa using h
   have h1:=ih l hl
   have h2:atomVars (l++[t])=addV (atomVars l) t:=by unfold atomVars;rw[List.foldl_append];rfl
   rw[List.foldl_append,h1,h2]
   show addV ((atomVars l).foldl addN o) t=_
   unfold addV
   split
   ·rfl
   ·by_cases hm:t.x∈atomVars l
    ·have e1:addN (atomVars l) t.x=atomVars l:=by unfold addN;rw[if_pos hm]
     rw[e1]
     exact if_pos ((mem_foldN _ _).2 (.inr hm))
    ·have e1:addN (atomVars l) t.x=atomVars l++[t.x]:=by unfold addN;rw[if_neg hm]
     rw[e1,List.foldl_append]
     rfl
theorem allTs_vars (al:List Atm):atomVars (allTs al)=qVars al:=by
 have h:∀ (al:List Atm) (o:List (List UInt8)),(allTs al).foldl addV o=al.foldl (fun o a=>(atomVars a.ts).foldl addN o) o:=by
  intro al
  induction al with
  | nil=>intro o;rfl
  | cons a l ih =>
    intro o
    show (a.ts++allTs l).foldl addV o=_
    rw[List.foldl_append,ih,foldV_N a.ts o _ rfl]
    rfl
 exact h al []
theorem trm_one (ts:List Trm):∀ x∈ts.map Trm.cells,∀ u∈x,u.oneCell'=true:=by
 intro x hx u hu
 simp at hx
 obtain⟨t,_,rfl⟩:=hx
 simp only[Trm.cells,List.mem_cons,List.not_mem_nil,or_false] at hu
 rcases hu with rfl | rfl | rfl | rfl<;>rfl
set_option maxHeartbeats 8000000 in
set_option maxRecDepth 100000 in
theorem refVars_any (w:World) (name:ByteArray) (hv av:Value) (al:List Atm) (h:AtomsAt w av al) (hn:al.length<=1048576) (hs:tsum al<=1048576) :
 Calls Tryz.prog 123 #[.agg #[.string name,hv,av]] w fun e w'=>∃ v,e=.returned v/\OwnS w.heap.size w' v (qVars al)/\Below w.heap.size w w':=by
 obtain⟨it,hit,ht0,ht1,ht2⟩:=info_parts Tryz.infoTrm
 obtain⟨ad,cap,rfl,hnc,hcm⟩:=h.form
 unfold maxLen at hcm
 have HR:=Lib.hid h
 have HS:=Lib.hid hs
 have HV:=Lib.hid (allTs_vars al)
 generalize hN:al.length=n at *
 have HN:=Lib.hid hN
 clear h hN hs
 go_enter Tryz.func123,Tryz.ntmps123
 go_wp2_with fail
 go_loopw [4] (fun i wr=>∃ (k:Nat) (tv:Value),k<=n/\i=.int .i64 k/\Hid (Blk wr w.heap.size 50 #[.string name,hv,.slice ad n cap])/\Hid (Blk wr (w.heap.size+1) 105 #[.string ⟨#[]⟩,tv])/\Hid (wr.ownsRow w.heap.size 113 4 tv (tsum (al.take k)) ((allTs (al.take k)).flatMap Trm.cells))/\Hid (Below w.heap.size w wr)) (fun i _=>n - (intOf i).toNat)
 case atStart=>exact⟨0,.slice none 0 0,Nat.zero_le _,rfl,Lib.hid ((Blk.new _ _ _).alloc _),Lib.hid (blkNew1 _ _ _ _),Lib.hid (by simpa [tsum,allTs] using World.ownsRow_nil _ _ _ _),Lib.hid (balloc (balloc (Below.refl _ _) _) _)⟩
 case round =>
  obtain⟨k,tv,hk,rfl,HQ,HA,HO,HB⟩:=hrel
  have q2:=HQ.out.cell 2
  have a0:=HA.out.cell 0
  have a1:=HA.out.cell 1
  have y1:=HA.out.frozen 1
  simp only[List.getElem?_toArray,List.getElem?_cons_zero,List.getElem?_cons_succ] at q2 a0 a1
  have hql:=HQ.out.lt
  have hal:=HA.out.lt
  by_cases hlt:k<n
  ·obtain⟨a,ha⟩:∃ a,al[k]? = some a:=⟨al[k]'(by rw[HN.out];exact hlt),List.getElem?_eq_getElem (by rw[HN.out];exact hlt)⟩
   obtain⟨b,off,cap',xv,hv',_,_,hbl0,g0,g1',hrow0,hal2⟩:=HR.out.get ha
   have hrow:=hrow0.keep HB.out
   have g1:=(HB.out.cell (p:=⟨b,off+k * 2+1,none⟩) hbl0).trans g1'
   have hbz:=HB.out.size
   have hbl:b<wr.heap.size:=by omega
   have hna:=own_blk_ne HO.out HA.out (by decide)
   have hnq:=own_blk_ne HO.out HQ.out (by decide)
   have hnb:some b≠tv.ownBlock:=fun e=>by
    have:=(HO.out.lt b e.symm).1
    omega
   have HNA:=Lib.hid (fun e=>hna (Eq.symm e))
   have HNQ:=Lib.hid (fun e=>hnq (Eq.symm e))
   have HNB:=Lib.hid hnb
   rw[HN.out] at hv'
   simp only[Value.slice.injEq,true_and] at hv'
   obtain⟨rfl,rfl⟩:=hv'
   have hts:=tsum_take_succ ha
   have htl:=tsum_take_le al (k+1)
   have hss:=HS.out
   have hcs:(allTs (al.take (k+1))).flatMap Trm.cells=(allTs (al.take k)).flatMap Trm.cells++(a.ts.map Trm.cells).flatten:=by
    rw[List.take_add_one,ha]
    simp [allTs,map_flat]
   have hd:decide ((k:Int)<0)=false:=by simp
   have hd2:decide ((n:Int)<=(k:Int))=false:=by simp;omega
   have HROW:=Lib.hid hrow
   have HTS:=Lib.hid hts
   have HCS:=Lib.hid hcs
   have hbnd:tsum (al.take k)+a.ts.length<=1048576:=by omega
   generalize tsum (al.take k)=m at *
   clear ha htl hss hts hcs hrow hrow0 g1' g0 hna hnq hnb
   go_wp2_with fail
   go_region_law (refine step_append_row rfl (.tmp 14) (.tmp 20) 103 rfl w.heap.size 113 it (.agg #[.string ⟨#[]⟩,.int .i64 0,.int .i64 0,.string ⟨#[]⟩]) 4 48 Tryz.underlying103 hit ht0 ht1 ht2 rfl (by decide) tv m _ rfl (HO.out.drew) xv rfl (a.ts.map Trm.cells) (HROW.out.keep (bdrew (Below.refl _ _))) (trm_len _) (trm_one _) (by unfold maxLen;simp;omega) (by simp;omega) (by simp;omega) ?_;intro v' w6 hown6 hgrow6;obtain⟨va,vc,rfl⟩:=own_sl hown6;have y6:=(hgrow6.frozen_far ⟨w.heap.size+1,1,none⟩ hal HNA.out).trans y1;have c6:=(hgrow6.cell_far ⟨w.heap.size+1,1,none⟩ hal HNA.out).trans a1)
   all_goals
    have hq6:=(HQ.out.drew.grown hgrow6 HNQ.out).far (p:=⟨w.heap.size+1,1,none⟩) (by simp) (.slice va (m+(a.ts.map Trm.cells).length) vc)
    have ha6:=HA.out.drew.grown hgrow6 HNA.out
    have ha7:=ha6.set_ 1 (.slice va (m+(a.ts.map Trm.cells).length) vc)
    have ms:MT 0 [105] w6 (w6.setCell ⟨w.heap.size+1,1,none⟩ (.slice va (m+(a.ts.map Trm.cells).length) vc)):=MT.setCell (MT.refl w6) ha6 (by simp) (Nat.zero_le _) _
    have hb7:=((bdrew HB.out).grown hgrow6 (by simp;omega) (fun q hq=>(HO.out.lt q hq).1)).setCell (p:=⟨w.heap.size+1,1,none⟩) (by simp) (.slice va (m+(a.ts.map Trm.cells).length) vc)
    have ho7:=ms.ownsRow hown6 (by decide)
    simp only[List.length_map] at hq6 ha7 hb7 ho7
    have HQ7:=Lib.hid hq6
    have HA7:=Lib.hid ha7
    have HB7:=Lib.hid hb7
    have HO7:=Lib.hid ho7
    clear hq6 ha6 ha7 ms hb7 ho7 hown6 hgrow6 y6 c6
    go_wp2_with fail
    go_roundw
    case rel =>
     refine⟨k+1,_,by omega,by go_num,HQ7,Lib.hid (by simpa using HA7.out),Lib.hid ?_,HB7⟩
     rw[HTS.out,HCS.out]
     exact HO7.out
    case measure=>simp [intOf];omega
  ·obtain rfl:k=n:=by omega
   have hb0:=HB.out
   have hw:AtomsAt w (.slice ad k cap) al:=HR.out
   have ho:=HO.out
   rw[List.take_of_length_le (by rw[HN.out];exact Nat.le_refl _)] at ho
   have hrow:RowAt wr tv 4 ((allTs al).map Trm.cells):=RowAt.ofOwn (by rw[map_flat];exact ho) (by rw[List.length_map,allTs_len]) (trm_len _) (by rw[List.length_map,allTs_len];have:=HS.out;omega)
   have hav:=refAtomVars_any wr ⟨#[]⟩ tv (allTs al) hrow (by rw[allTs_len];have:=HS.out;omega)
   rw[HV.out] at hav
   have HAV:=Lib.hid hav
   clear hav hrow ho hw hb0
   go_wp2_with fail
   refine HAV.out.mono ?_
   rintro e w2 ⟨v,rfl,hown,hb⟩
   have HOW:=Lib.hid (World.ownsRow.low hown HB.out.size)
   have HB2:=Lib.hid (HB.out.trans (hb.mono HB.out.size))
   clear hown hb
   go_wp2_with fail
   go_ret
   exact⟨_,rfl,HOW.out,HB2.out⟩
def q4 (n:NmP) (hs:List NmP) (al:List AtP) (X:Tok × LS):PR Qry:=outS (endS n hs al X.2) (qryOf n hs al)
def q3 (n:NmP) (hs:List NmP) (G:LS × List AtP):PR Qry:=q4 n hs G.2 (wantS 0 [] G.1)
def q2d (n:NmP) (hs:List NmP) (X:Tok × LS):PR Qry:=q3 n hs (atomsS X.2)
def q2c (n:NmP) (hs:List NmP) (X:Tok × LS):PR Qry:=q2d n hs (wantS 3 [58,45] X.2)
def q2b (n:NmP) (G:LS × List NmP):PR Qry:=q2c n G.2 (wantS 3 [41] G.1)
def q2a (n:NmP) (X:Tok × LS):PR Qry:=q2b n (gloop nameS (meas X.2+1) X.2 [])
def q1 (X:Tok × LS):PR Qry:=q2a (X.1.x,X.1.p) (wantS 3 [40] X.2)
theorem blkNewS (w:World) (p:Addr) (u:Value) (t:TypeId) (cs:Array Value):Blk ((w.setCell p u).alloc (.cells cs t)) w.heap.size t cs:=by
 have:=Blk.new (w.setCell p u) t cs
 simpa using this
def lo (xs:List (Trm × Int)):List Int:=(xs[5]?.map (·.2)).toList
end Go.Proofs.YtgopfpjinohncaaGreatDoor
