/- Values and terms compared. -/
import Derived.Test.YtgopfpjinohncaaGreatDoorGcF
import Derived.Laws.CopyOwn
set_option maxHeartbeats 2000000
set_option maxRecDepth 100000
set_option linter.unusedVariables false
namespace Go.Proofs.YtgopfpjinohncaaGreatDoor
open Go.Proofs.Tryz
open Go.RowKit
structure Vl where
 k:Int
 n:Int
 t:List UInt8
deriving DecidableEq
def Vl.cells (v:Vl):List Value:=[.int .i64 v.k,.int .i64 v.n,.string ⟨v.t.toArray⟩]
def dd.vl (t:dd):Vl:=⟨t.k,t.n,t.t⟩
def f3 (f:Field):String × TypeId × Nat:=(f.name,f.type,f.offset)
def DQ (d:Nat) (xs ys:Array Value):List (String × TypeId × Nat)->Sem Bool
 | []=>pure true
 | f::fs =>
   if f.1 ≠ "_" then do
    let a <-part f.2.1 xs f.2.2
    let b <-part f.2.1 ys f.2.2
    let r <-Op.equalIn d f.2.1 a b
    if (!r)=true then pure false else DQ d xs ys fs
   else DQ d xs ys fs
theorem qK (d:Nat) (xs ys:Array Value):∀ fs:List Field,Op.eqFields d xs ys fs=DQ d xs ys (fs.map f3)
 | []=>rfl
 | f::fs=>by
   have:=qK d xs ys fs
   simp only[Op.eqFields,List.map_cons,DQ,f3,this]
theorem zX (a b:List UInt8):((⟨a.toArray⟩:ByteArray).toList == (⟨b.toArray⟩:ByteArray).toList)=decide (a=b):=by
 rw[ByteArray.toList_eq,ByteArray.toList_eq]
 simp only
 by_cases h:a=b<;>simp [h]
theorem l7 (d:Nat) (a b:Vl) (w:World):(Op.equalIn (d+2) 111 (.agg a.cells.toArray) (.agg b.cells.toArray)).run prog w=.ok (decide (a=b)) w:=by
 have hf:(prog.fieldsOf 111).toList.map f3=[("Kind",107,0),("Int",2,1),("Text",9,2)]:=by kernel_rfl
 have p1:∀ w,(isAgg 107).run prog w=.ok false w:=fun _=>by kernel_rfl
 have p2:∀ w,(isAgg 2).run prog w=.ok false w:=fun _=>by kernel_rfl
 have p3:∀ w,(isAgg 9).run prog w=.ok false w:=fun _=>by kernel_rfl
 rw[run_equalIn_agg w (d+1) _ _ _ (by kernel_rfl) (by kernel_rfl),qK,hf]
 have e1:=fun (x y:Int) (w:World)=>run_equalIn_int (P:=prog) w d 107 .i64 .i64 x y underlying107
 have e2:=fun (x y:Int) (w:World)=>run_equalIn_int (P:=prog) w d 2 .i64 .i64 x y underlying2
 have e3:=fun (x y:ByteArray) (w:World)=>run_equalIn_string (P:=prog) w d 9 x y underlying9
 obtain⟨k,n,t⟩:=a
 obtain⟨k',n',t'⟩:=b
 simp only[Vl.cells,DQ,part,Sem.run_bind,Sem.run_ite,p1,p2,p3,Result.andThen_ok]
 by_cases h1:k=k'<;>by_cases h2:n=n'<;>by_cases h3:t=t'<;>simp [h1,h2,h3,e1,e2,e3,Vl.mk.injEq]
theorem xy (a b:Vl) (w:World):(binOp .neq 111 (.agg a.cells.toArray) (.agg b.cells.toArray)).run prog w=.ok (.bool (!decide (a=b))) w:=by
 rw[run_neq_struct,l7 9998]
 rfl
variable {P : Program}
theorem oG (w:World) (dT sT ty elem:TypeId) (sz g dLen dCap:Nat) (a:Addr) (sLen sCap:Nat) (cur:Array Value) (t:TypeId) (cs:List Value)
 (hu:P.underlying dT=some (.slice elem)) (hs:(P.info? elem).map (·.size)=some sz)
 (hg:w.heap[g]? = some (.cells cur t (0,0))) (hn:cs.length=Nat.min sLen dLen * sz)
 (hsrc:∀ j v,cs[j]? = some v->w.cell? (a.add j)=some v) (hfit:cs.length<=cur.size) (h1:∀ v∈cs,v.oneCell'=true) :
 (Builtin.copy_ #[dT,sT] ty #[.slice (some ⟨g,0,none⟩) dLen dCap,.slice (some a) sLen sCap]).run P w =
   .ok (goInt (Nat.min sLen dLen)) (w.setRow g (cs++cur.toList.drop cs.length).toArray):=by
 have hl:=run_loadCells_list (P:=P) w a cs hsrc
 have hst:=run_storeCells_at P g 0 t cs 0 cur w hg (by simpa using hfit) h1
 cases hq:P.info? elem with
 | none=>simp [hq] at hs
 | some i =>
   have hi:i.size=sz:=by simpa [hq] using hs
   rw[hn] at hl
   simp [Builtin.copy_,run_underlying hu,Builtin.lenOf,Builtin.firstCells,sizeOf,typeInfo,hq,hi,hl,hst]
theorem jR (w:World) (dT sT ty elem:TypeId) (sz:Nat) (d a:Option Addr) (dLen dCap sLen sCap:Nat) (hu:P.underlying dT=some (.slice elem)) (hs:(P.info? elem).map (·.size)=some sz) (hn:Nat.min sLen dLen=0) :
 (Builtin.copy_ #[dT,sT] ty #[.slice d dLen dCap,.slice a sLen sCap]).run P w=.ok (goInt 0) w:=by
 cases hq:P.info? elem with
 | none=>simp [hq] at hs
 | some i =>
   have hl:∀ (x:Addr),(loadCells x 0).run P w=.ok #[] w:=fun x=>by simpa using run_loadCells_list (P:=P) w x [] (by simp)
   cases d<;>cases a<;>simp [Builtin.copy_,run_underlying hu,Builtin.lenOf,Builtin.firstCells,sizeOf,typeInfo,hq,hn,storeCells,hl]
theorem ci {w:World} {ops:Array Oper} {rest:List Oper} {o:Oper} {a:Act} {Q:Exit->Act->World->Prop} (hgd:o.guard=none) (d s:Operand) (dT sT:TypeId)
 (ho:o.op=.call { callee:=.builtin .copy,args:=#[d,s],argTypes:=#[dT,sT] }) (elem:TypeId) (sz:Nat) (hu:P.underlying dT=some (.slice elem)) (hsz:(P.info? elem).map (·.size)=some sz)
 (g n:Nat) (sv:Value) (hd:a.eval d=.slice (some ⟨g,0,none⟩) n n) (hs:a.eval s=sv)
 (cur:List Value) (base:Nat) (hown:w.ownsRow base elem sz (.slice (some ⟨g,0,none⟩) n n) n cur) (xs:List (List Value)) (hx:aj w sv sz xs) (hxn:xs.length=n) (hl:∀ x∈xs,x.length=sz) (h1:∀ x∈xs,∀ u∈x,u.oneCell'=true) (hgb:base<=g)
 (h:∀ w',w'.ownsRow base elem sz (.slice (some ⟨g,0,none⟩) n n) n xs.flatten->aq (fun k=>k=g) w w'->w'.heap.size=w.heap.size->wpList P ops Q rest (a.put o.dst (goInt n)) w') :
 wpList P ops Q (o::rest) a w:=by
 refine wpList_plain hgd fun K hK=>?_
 obtain⟨ad,cap,rfl,hc1,hc2⟩:=hx.form
 rcases hown.2 with ⟨h0,_⟩ | ⟨g',cap',cur',hv,hb,hg,hnc,hcm,hsz',htk⟩
 ·simp at h0
 simp only[Value.slice.injEq,Option.some.injEq,Addr.mk.injEq,and_true,true_and] at hv
 obtain⟨rfl,rfl⟩:=hv
 have hfl:=bP hl
 rw[hxn] at hfl hs
 by_cases h0:n=0
 ·subst h0
  have hx0:xs=[]:=List.eq_nil_of_length_eq_zero hxn
  subst hx0
  have hrun:=jR (P:=P) w dT sT o.type elem sz (some ⟨g,0,none⟩) ad 0 0 0 cap hu hsz rfl
  unfold Oper.wp
  simp [execOp,ho,resolve,invoke,builtin,hd,hs,hrun,Result.andThen]
  have hcur:cur=[]:=List.eq_nil_of_length_eq_zero (by have:=hown.1;simpa using this)
  subst hcur
  exact hK _ _ (h w hown (aq.refl _ w) rfl)
 ·obtain⟨x0,hx0⟩:∃ x0,xs[0]? = some x0:=⟨xs[0]'(by omega),FD (by omega)⟩
  obtain⟨b,off,cap2,hv2,_,_,hbl,_⟩:=hx.get hx0
  simp only[Value.slice.injEq,true_and] at hv2
  obtain⟨rfl,rfl⟩:=hv2
  have hsrc:∀ j v,xs.flatten[j]? = some v->w.cell? ((⟨b,off,none⟩:Addr).add j)=some v:=by
   intro j v hj
   have hadd:(⟨b,off,none⟩:Addr).add j=⟨b,off+j,none⟩:=by unfold Addr.add;split<;>simp_all
   rw[hadd]
   have hjl:=(FE hj).1
   rw[hfl] at hjl
   have hszp:0<sz:=by
    rcases Nat.eq_zero_or_pos sz with e | e
    ·subst e;simp at hjl
    ·exact e
   have hq:j / sz<n:=Nat.div_lt_of_lt_mul (by rw[Nat.mul_comm];exact hjl)
   have hr:j % sz<sz:=Nat.mod_lt _ hszp
   obtain⟨x,hxj⟩:∃ x,xs[j / sz]? = some x:=⟨xs[j / sz]'(by omega),FD (by omega)⟩
   have hxl:=hl x (FC hxj)
   obtain⟨u,hu'⟩:∃ u,x[j % sz]? = some u:=⟨x[j % sz]'(by omega),FD (by omega)⟩
   have hfa:=ef hl hxj hu'
   have hjj:j / sz * sz+j % sz=j:=by rw[Nat.mul_comm];exact Nat.div_add_mod j sz
   rw[hjj,hj] at hfa
   obtain⟨b',off',cap3,hv3,_,_,_,hcell⟩:=hx.get hxj
   simp only[Value.slice.injEq,Option.some.injEq,Addr.mk.injEq,and_true,true_and] at hv3
   obtain⟨⟨rfl,rfl⟩,rfl⟩:=hv3
   have:=hcell (j % sz) u hu'
   rw[Nat.add_assoc,hjj] at this
   rw[this,hfa]
  have hmin:Nat.min n n=n:=Nat.min_self n
  have hfit:xs.flatten.length<=cur'.size:=by rw[hfl,hsz'];exact Nat.le_refl _
  have hrun:=oG (P:=P) w dT sT o.type elem sz g n n ⟨b,off,none⟩ n cap cur' elem xs.flatten hu hsz hg (by rw[hmin,hfl]) hsrc hfit (by
   intro v hv
   obtain⟨x,hxm,hvx⟩:=List.mem_flatten.1 hv
   exact h1 x hxm v hvx)
  rw[hmin] at hrun
  unfold Oper.wp
  simp [execOp,ho,resolve,invoke,builtin,hd,hs,hrun,Result.andThen]
  refine hK _ _ (h _ ⟨hfl,.inr ⟨g,n,_,rfl,hgb,setRow_heap w g _ _ elem _ hg,FA,hcm,?_,?_⟩⟩ (fp w g _) (by simp [World.setRow]))
  ·have hfl2:(List.map List.length xs).sum=n * sz:=by rw[<-List.length_flatten];exact hfl
   simp [hfl2,hsz']
  ·have hfl3:n * sz<=xs.flatten.length:=by rw[hfl];exact Nat.le_refl _
   have hfl4:xs.flatten.length<=n * sz:=by rw[hfl];exact Nat.le_refl _
   simp only[List.take_append_of_le_length hfl3]
   exact List.take_of_length_le hfl4
variable {P : Program}
theorem gp {rows:List (List Value)} {sz k:Nat} {cells rest:List Value} (hl:∀ x∈rows,x.length=sz) (hk:k<rows.length) (hc:cells.length=sz) :
 (rows.flatten++rest).take (k * sz)++cells++(rows.flatten++rest).drop (k * sz+sz)=(rows.set k cells).flatten++rest:=by
 have e:rows=rows.take k++rows[k]::rows.drop (k+1):=by rw[List.getElem_cons_drop,List.take_append_drop]
 have h1:(rows.take k).flatten.length=k * sz:=by
  rw[bP (fun x hx=>hl x (List.mem_of_mem_take hx)),List.length_take]
  congr 1
  omega
 have h2:rows[k].length=sz:=hl _ (List.getElem_mem hk)
 have e2:rows.flatten=(rows.take k).flatten++(rows[k]++(rows.drop (k+1)).flatten):=by
  have e4:(rows.take k++rows[k]::rows.drop (k+1)).flatten=(rows.take k).flatten++(rows[k]++(rows.drop (k+1)).flatten):=by rw[List.flatten_append,List.flatten_cons]
  exact (congrArg List.flatten e).trans e4
 have e3:(rows.set k cells).flatten=(rows.take k).flatten++(cells++(rows.drop (k+1)).flatten):=by
  rw[List.set_eq_take_append_cons_drop,if_pos hk]
  simp
 rw[e2,e3]
 generalize (rows.take k).flatten=A at *
 generalize rows[k]=B at *
 generalize (rows.drop (k+1)).flatten=C at *
 rw[<-h1,<-h2]
 have d1:((A++(B++C))++rest).take A.length=A:=by
  rw[List.append_assoc,List.take_append_of_le_length FA,List.take_length]
 have d2:((A++(B++C))++rest).drop (A.length+B.length)=C++rest:=by
  rw[<-List.append_assoc A B C,List.append_assoc (A++B) C rest,List.drop_append_of_le_length (by simp)]
  rw[List.drop_of_length_le (by simp)]
  rfl
 rw[d1,d2]
 simp
theorem mW {w:World} {g k:Nat} {ty e:TypeId} {sz base n cap:Nat} {rows:List (List Value)} {cells:Array Value} (hown:w.ownsRow base e sz (.slice (some ⟨g,0,none⟩) n cap) n rows.flatten) (hl:∀ x∈rows,x.length=sz)
 (hn:rows.length=n) (hk:k<n) (hc:cells.size=sz) (hi:(P.info? ty).map (·.size)=some sz) (h1:cells.all (·.oneCell')=true) :
 ∃ w',(storeVar ty ⟨g,k * sz,none⟩ (.agg cells)).run P w=.ok () w'/\w'.ownsRow base e sz (.slice (some ⟨g,0,none⟩) n cap) n (rows.set k cells.toList).flatten/\aq (fun j=>j=g) w w'/\w'.heap.size=w.heap.size:=by
 subst hc
 rcases hown.2 with ⟨h0,_⟩ | ⟨g',cap',cur,hv,hb,hg,hnc,hcm,hsz,htk⟩
 ·simp at h0
 simp only[Value.slice.injEq,Option.some.injEq,Addr.mk.injEq,and_true,true_and] at hv
 obtain⟨rfl,rfl⟩:=hv
 have hfl:=bP hl
 have hcl:cells.toList.length=cells.size:=by simp
 have hle:(k+1) * cells.size<=n * cells.size:=Nat.mul_le_mul_right _ hk
 have hle2:n * cells.size<=cap * cells.size:=Nat.mul_le_mul_right _ hnc
 rw[Nat.succ_mul] at hle
 have hst:=run_storeCells_at P g (k * cells.size) e cells.toList 0 cur w hg (by rw[hsz,hcl];omega) (fun v hv=>(Array.all_eq_true_iff_forall_mem.1 h1) v (by simpa using hv))
 have hcur:cur.toList=rows.flatten++cur.toList.drop (n * cells.size):=by
  conv=>lhs;rw[<-List.take_append_drop (n * cells.size) cur.toList]
  rw[htk]
 have hnew:cur.toList.take (k * cells.size)++cells.toList++cur.toList.drop (k * cells.size+cells.size)=(rows.set k cells.toList).flatten++cur.toList.drop (n * cells.size):=by
  have:=gp (rest:=cur.toList.drop (n * cells.size)) hl (by omega:k<rows.length) hcl
  rw[<-hcur] at this
  exact this
 simp only[Nat.add_zero,hcl] at hst
 rw[hnew] at hst
 have hl2:∀ x∈rows.set k cells.toList,x.length=cells.size:=fun x hx=>by
  rcases List.mem_or_eq_of_mem_set hx with h | h
  ·exact hl x h
  ·rw[h,hcl]
 have hfl2:(rows.set k cells.toList).flatten.length=n * cells.size:=by rw[bP hl2,List.length_set,hn]
 refine⟨w.setRow g ((rows.set k cells.toList).flatten++cur.toList.drop (n * cells.size)).toArray,?_,⟨hfl2,.inr ⟨g,cap,_,rfl,hb,setRow_heap w g _ _ e _ hg,hnc,hcm,?_,?_⟩⟩,fp w g _,by simp [World.setRow]⟩
 ·cases hq:P.info? ty with
  | none=>simp [hq] at hi
  | some i =>
    have hs:cells.size=i.size:=by simp [hq] at hi;omega
    simp [storeVar,sizeOf,typeInfo,hq,Value.cells,hs]
    simp only[hs] at hst
    exact hst
 ·have hdl:(cur.toList.drop (n * cells.size)).length=cap * cells.size - n * cells.size:=by rw[List.length_drop,Array.length_toList,hsz]
  rw[List.size_toArray,List.length_append,hfl2,hdl]
  omega
 ·show List.take (n * cells.size) ((rows.set k cells.toList).flatten++cur.toList.drop (n * cells.size))=_
  rw[List.take_append_of_le_length (by rw[hfl2];exact FA)]
  exact List.take_of_length_le (by rw[hfl2];exact FA)
theorem jm {op:Oper} {a:Act} {w:World} {K:Act->World->Prop} {Q:Exit->Act->World->Prop} (ty:TypeId) (x y:Operand) (ho:op.op=.store ty x y)
 (g k:Nat) (e:TypeId) (sz base n cap:Nat) (rows:List (List Value)) (cells:Array Value) (hx:a.eval x=.pointer (some ⟨g,k * sz,none⟩)) (hy:a.eval y=.agg cells)
 (hown:w.ownsRow base e sz (.slice (some ⟨g,0,none⟩) n cap) n rows.flatten) (hl:∀ x∈rows,x.length=sz) (hn:rows.length=n) (hk:k<n) (hc:cells.size=sz) (hi:(P.info? ty).map (·.size)=some sz) (h1:cells.all (·.oneCell')=true)
 (h:∀ w',w'.ownsRow base e sz (.slice (some ⟨g,0,none⟩) n cap) n (rows.set k cells.toList).flatten->aq (fun j=>j=g) w w'->w'.heap.size=w.heap.size->K (a.put op.dst undef) w'):op.wp P a w K Q:=by
 obtain⟨w',hr,h2,h3,h4⟩:=mW (P:=P) (ty:=ty) hown hl hn hk hc hi h1
 unfold Oper.wp execOp
 simp only[ho,hx,hy,Instr.storeAt,Instr.sureAddr,Sem.run_bind,Sem.run_pure,Result.andThen_ok,hr]
 exact h w' h2 h3 h4
theorem dR {ops:Array Oper} {rest:List Oper} {op:Oper} {a:Act} {w:World} {Q:Exit->Act->World->Prop} (hgd:op.guard=none) (ty:TypeId) (x y:Operand) (ho:op.op=.store ty x y)
 (g k:Nat) (e:TypeId) (sz base n cap:Nat) (rows:List (List Value)) (cells:Array Value) (hx:a.eval x=.pointer (some ⟨g,k * sz,none⟩)) (hy:a.eval y=.agg cells)
 (hown:w.ownsRow base e sz (.slice (some ⟨g,0,none⟩) n cap) n rows.flatten) (hl:∀ x∈rows,x.length=sz) (hn:rows.length=n) (hk:k<n) (hc:cells.size=sz) (hi:(P.info? ty).map (·.size)=some sz) (h1:cells.all (·.oneCell')=true)
 (h:∀ w',w'.ownsRow base e sz (.slice (some ⟨g,0,none⟩) n cap) n (rows.set k cells.toList).flatten->aq (fun j=>j=g) w w'->w'.heap.size=w.heap.size->wpList P ops Q rest (a.put op.dst undef) w'):wpList P ops Q (op::rest) a w :=
 wpList_plain hgd fun _ hK=>jm ty x y ho g k e sz base n cap rows cells hx hy hown hl hn hk hc hi h1 fun w' h2 h3 h4=>hK _ _ (h w' h2 h3 h4)
theorem my {ops:Array Oper} {op:Oper} {a:Act} {w:World} {K:Act->World->Prop} {Q:Exit->Act->World->Prop} {E:Prop} (hgd:op.guard=none) (ty:TypeId) (x y:Operand) (ho:op.op=.store ty x y)
 (g k:Nat) (e:TypeId) (sz base n cap:Nat) (rows:List (List Value)) (cells:Array Value) (hx:a.eval x=.pointer (some ⟨g,k * sz,none⟩)) (hy:a.eval y=.agg cells)
 (hown:w.ownsRow base e sz (.slice (some ⟨g,0,none⟩) n cap) n rows.flatten) (hl:∀ x∈rows,x.length=sz) (hn:rows.length=n) (hk:k<n) (hc:cells.size=sz) (hi:(P.info? ty).map (·.size)=some sz) (h1:cells.all (·.oneCell')=true)
 (h:∀ w',w'.ownsRow base e sz (.slice (some ⟨g,0,none⟩) n cap) n (rows.set k cells.toList).flatten->aq (fun j=>j=g) w w'->w'.heap.size=w.heap.size->K (a.put op.dst undef) w') :
 if Region.wanted op (yielded ops a.tmps)=true then Oper.wp P op a w K Q else E:=by
 have hw:Region.wanted op (yielded ops a.tmps)=true:=by simp [Region.wanted,hgd]
 rw[if_pos hw]
 exact jm ty x y ho g k e sz base n cap rows cells hx hy hown hl hn hk hc hi h1 h
theorem en {w:World} {g k j:Nat} {e:TypeId} {sz base n cap:Nat} {xs:List Value} (hown:w.ownsRow base e sz (.slice (some ⟨g,0,none⟩) n cap) n xs) (hk:k<n) (hj:j<sz) :
 (∃ u,w.cell? ⟨g,k * sz+j,none⟩=some u)/\w.frozen? ⟨g,k * sz+j,none⟩=false/\g<w.heap.size:=by
 rcases hown.2 with ⟨h0,_⟩ | ⟨g',cap',cur,hv,hb,hg,hnc,hcm,hsz,htk⟩
 ·simp at h0
 simp only[Value.slice.injEq,Option.some.injEq,Addr.mk.injEq,and_true,true_and] at hv
 obtain⟨rfl,rfl⟩:=hv
 have hlt:k * sz+j<cur.size:=by
  have h1:(k+1) * sz<=cap * sz:=Nat.mul_le_mul_right _ (by omega)
  rw[Nat.succ_mul] at h1
  omega
 refine⟨⟨cur[k * sz+j],by simp [World.cell?,hg,hlt]⟩,by simp [World.frozen?,hg],(Array.getElem?_eq_some_iff.1 hg).1⟩
theorem gC {w:World} {g k:Nat} {e:TypeId} {base n cap:Nat} {rows:List (List Value)} {cells:List Value} (hown:w.ownsRow base e cells.length (.slice (some ⟨g,0,none⟩) n cap) n rows.flatten) (hl:∀ x∈rows,x.length=cells.length)
 (hn:rows.length=n) (hk:k<n) (h1:∀ v∈cells,v.oneCell'=true) :
 (w.setCells g (k * cells.length) cells).ownsRow base e cells.length (.slice (some ⟨g,0,none⟩) n cap) n (rows.set k cells).flatten/\aq (fun j=>j=g) w (w.setCells g (k * cells.length) cells)/\(w.setCells g (k * cells.length) cells).heap.size=w.heap.size:=by
 have hr2:=run_storeCells_cells (P:=default) g (k * cells.length) cells 0 w (fun j hj=>by
  obtain⟨⟨u,hu⟩,_⟩:=en hown hk hj
  simp only[Nat.add_zero]
  rw[hu]
  rfl) (fun j hj=>by simpa using (en hown hk hj).2.1) h1
 rcases hown.2 with ⟨h0,_⟩ | ⟨g',cap',cur,hv,hb,hg,hnc,hcm,hsz,htk⟩
 ·simp at h0
 simp only[Value.slice.injEq,Option.some.injEq,Addr.mk.injEq,and_true,true_and] at hv
 obtain⟨rfl,rfl⟩:=hv
 have hle:(k+1) * cells.length<=n * cells.length:=Nat.mul_le_mul_right _ hk
 have hle2:n * cells.length<=cap * cells.length:=Nat.mul_le_mul_right _ hnc
 rw[Nat.succ_mul] at hle
 have hst:=run_storeCells_at default g (k * cells.length) e cells 0 cur w hg (by rw[hsz];omega) h1
 have hcur:cur.toList=rows.flatten++cur.toList.drop (n * cells.length):=by
  conv=>lhs;rw[<-List.take_append_drop (n * cells.length) cur.toList]
  rw[htk]
 have hnew:cur.toList.take (k * cells.length)++cells++cur.toList.drop (k * cells.length+cells.length)=(rows.set k cells).flatten++cur.toList.drop (n * cells.length):=by
  have:=gp (rest:=cur.toList.drop (n * cells.length)) hl (by omega:k<rows.length) (rfl:cells.length=cells.length)
  rw[<-hcur] at this
  exact this
 simp only[Nat.add_zero] at hst hr2
 rw[hnew,hr2] at hst
 simp only[Result.ok.injEq,true_and] at hst
 rw[hst]
 have hl2:∀ x∈rows.set k cells,x.length=cells.length:=fun x hx=>by
  rcases List.mem_or_eq_of_mem_set hx with h | h
  ·exact hl x h
  ·rw[h]
 have hfl2:(rows.set k cells).flatten.length=n * cells.length:=by rw[bP hl2,List.length_set,hn]
 refine⟨⟨hfl2,.inr ⟨g,cap,_,rfl,hb,setRow_heap w g _ _ e _ hg,hnc,hcm,?_,?_⟩⟩,fp w g _,by simp [World.setRow]⟩
 ·have hdl:(cur.toList.drop (n * cells.length)).length=cap * cells.length - n * cells.length:=by rw[List.length_drop,Array.length_toList,hsz]
  rw[List.size_toArray,List.length_append,hfl2,hdl]
  omega
 ·show List.take (n * cells.length) ((rows.set k cells).flatten++cur.toList.drop (n * cells.length))=_
  rw[List.take_append_of_le_length (by rw[hfl2];exact FA)]
  exact List.take_of_length_le (by rw[hfl2];exact FA)
theorem px (z:List Value) (n:Nat) (hz:0<z.length):(madeCells z.toArray (n * z.length)).toList=(List.replicate n z).flatten:=by
 have hl:∀ x∈List.replicate n z,x.length=z.length:=fun x hx=>by rw[(List.mem_replicate.1 hx).2]
 have hfl:=bP hl
 rw[List.length_replicate] at hfl
 apply List.ext_getElem?
 intro j
 rcases Nat.lt_or_ge j (n * z.length) with h | h
 ·have hm:j % z.length<z.length:=Nat.mod_lt _ hz
  have hd:j / z.length<n:=Nat.div_lt_of_lt_mul (by rw[Nat.mul_comm];exact h)
  have h1:=ef hl (i:=j / z.length) (j:=j % z.length) (x:=z) (u:=z[j % z.length]) (by simp [hd]) (FD hm)
  rw[Nat.mul_comm,Nat.div_add_mod] at h1
  rw[h1]
  unfold madeCells
  simp [h,hm]
 ·have h2:(madeCells z.toArray (n * z.length)).toList.length<=j:=by rw[Array.length_toList,size_madeCells];exact h
  have h3:(List.replicate n z).flatten.length<=j:=by rw[hfl];exact h
  rw[List.getElem?_eq_none h2,List.getElem?_eq_none h3]
theorem Tryz.infoVal:(prog.info? 111).map (fun i=>(i.zero,i.size,i.bytes))=some (some (.agg #[.int .i64 0,.int .i64 0,.string ⟨#[]⟩]),3,32):=by kernel_rfl
theorem nd (vs:List Vl):∀ x∈vs.map Vl.cells,x.length=3:=by
 intro x hx
 simp at hx
 obtain⟨t,_,rfl⟩:=hx
 rfl
theorem zZ (vs:List Vl):∀ x∈vs.map Vl.cells,∀ u∈x,u.oneCell'=true:=by
 intro x hx u hu
 simp at hx
 obtain⟨t,_,rfl⟩:=hx
 simp only[Vl.cells,List.mem_cons,List.not_mem_nil,or_false] at hu
 rcases hu with rfl | rfl | rfl<;>rfl
theorem tW (w:World) (rv:Value) (vs:List Vl) (h:aj w rv 3 (vs.map Vl.cells)) (hv:vs.length<=4398046511104) :
 Calls prog 27 #[rv] w fun e w'=>∃ v,e=.returned v/\w'.ownsRow w.heap.size 111 3 v vs.length (vs.map Vl.cells).flatten/\Below w.heap.size w w':=by
 obtain⟨i0,hi0,hz0,hz1,hz2⟩:=info_parts Tryz.infoVal
 obtain⟨ad,cap,rfl,hnc,hcm⟩:=h.form
 simp only[List.length_map] at hnc ⊢
 unfold maxLen at hcm
 have HR:=Fx h
 have HL:=Fx (nd vs)
 have HO:=Fx (zZ vs)
 have hlen:(vs.map Vl.cells).length=vs.length:=by simp
 generalize vs.map Vl.cells=xs at *
 generalize hN:vs.length=n at *
 rw[hlen] at HR
 have HX:=Fx hlen
 clear h hN hlen
 go_enter func27,ntmps27
 go_wp2_with (at_make;refine wpList_make_full _ rfl _ _ 59 rfl w.heap.size 111 i0 (.agg #[.int .i64 0,.int .i64 0,.string ⟨#[]⟩]) 3 underlying59 hi0 hz0 hz1 _ _ _ _ n rfl rfl rfl rfl ?b2 ?b3 ?b4 ?_)
 case b2=>rw[hz2];omega
 case b3=>unfold maxLen;omega
 case b4=>omega
 intro w2 hown2 hgrow2
 have hbw2:Below w.heap.size w w2:=(Below.refl _ w).grown hgrow2 FA (fun q hq=>by cases hq)
 have HOW2:=Fx hown2
 have HBW2:=Fx hbw2
 have HR2:=Fx (HR.out.keep hbw2)
 clear hbw2 hown2 hgrow2
 go_wp2_with (refine ci rfl _ _ _ _ rfl 111 3 underlying59 (by kernel_rfl) w.heap.size n _ rfl rfl _ w.heap.size HOW2.out xs HR2.out HX.out HL.out HO.out FA ?_)
 intro w3 hown3 hmod3 hsz3
 have HOW3:=Fx hown3
 have HBW3:=Fx (aq.own HBW2.out hmod3 FA)
 clear hown3 hmod3 hsz3
 go_wp2_with fail
 go_ret
 exact⟨_,rfl,HOW3.out,HBW3.out⟩
theorem qk (w:World) (rel:ByteArray) (tv:Value) (ts:List dd) (h:aj w tv 4 (ts.map dd.cells)) (hn:ts.length<=2932031007317) :
 Calls prog 78 #[.agg #[.string rel,tv]] w fun e w'=>∃ v,e=.returned (.agg #[.string rel,v])/\w'.ownsRow w.heap.size 113 4 v ts.length (ts.map dd.cells).flatten/\Below w.heap.size w w':=by
 obtain⟨i0,hi0,hz0,hz1,hz2⟩:=info_parts Tryz.infoTrm
 obtain⟨ad,cap,rfl,hnc,hcm⟩:=h.form
 simp only[List.length_map] at hnc ⊢
 unfold maxLen at hcm
 have HL:=Fx (ri ts)
 have HO:=Fx (Dv ts)
 have hlen:(ts.map dd.cells).length=ts.length:=by simp
 generalize ts.map dd.cells=xs at *
 generalize hN:ts.length=n at *
 rw[hlen] at h
 have HR:=Fx h
 have HX:=Fx hlen
 have HBX:=Fx ((af.new w 105 #[.string rel,.slice ad n cap]).alloc (.cells #[.string ⟨#[]⟩,.slice none 0 0] 105))
 have HBY:=Fx (cM w (.cells #[.string rel,.slice ad n cap] 105) 105 #[.string ⟨#[]⟩,.slice none 0 0])
 have HB0:=Fx (ae (ae (Below.refl w.heap.size w) (.cells #[.string rel,.slice ad n cap] 105)) (.cells #[.string ⟨#[]⟩,.slice none 0 0] 105))
 clear h hN hlen
 go_enter func78,ntmps78
 go_wp2_with (at_make;refine wpList_make_full _ rfl _ _ 103 rfl w.heap.size 113 i0 (.agg #[.string ⟨#[]⟩,.int .i64 0,.int .i64 0,.string ⟨#[]⟩]) 4 underlying103 hi0 hz0 hz1 _ _ _ _ n rfl rfl rfl rfl ?b2 ?b3 ?b4 ?_)
 case b2=>rw[hz2];omega
 case b3=>unfold maxLen;omega
 case b4=>simp<;>omega
 intro w2 hown2 hgrow2
 have HOW2:=Fx hown2
 have hbw2:Below w.heap.size w w2:=HB0.out.grown hgrow2 (by simp<;>omega) (fun q hq=>by cases hq)
 have HBW2:=Fx hbw2
 have HR2:=Fx (HR.out.keep hbw2)
 have bx:=HBX.out.grown hgrow2 (by simp)
 have hby:=HBY.out.grown hgrow2 (by simp)
 have x0:=bx.cell 0
 have x1:=bx.cell 1
 simp only[FF] at x0 x1
 have hxl:=bx.lt
 have HBX2:=Fx bx
 have HBY2:=Fx hby
 clear hbw2 hown2 hgrow2 bx hby
 go_wp2_with (refine ci rfl _ _ _ _ rfl 113 4 underlying103 (by kernel_rfl) (w.heap.size+1+1) n _ rfl rfl _ w.heap.size HOW2.out xs HR2.out HX.out HL.out HO.out (by omega) ?_)
 intro w3 hown3 hmod3 hsz3
 have HOW3:=Fx hown3
 have hbw3:=aq.own HBW2.out hmod3 (by omega)
 have bx:=HBX2.out.mod hmod3 (by omega)
 have hby:=HBY2.out.mod hmod3 (by omega)
 have x0:=bx.cell 0
 simp only[List.getElem?_toArray,List.getElem?_cons_zero] at x0
 have hxl:=bx.lt
 have HBW3:=Fx hbw3
 have HBY3:=Fx hby
 clear hown3 hmod3 hsz3 bx hby hbw3
 go_wp2_with (refine ar rfl 105 _ _ rfl (w.heap.size+1) 105 _ _ rfl rfl HBY3.out (by kernel_rfl) rfl (by simp [Value.oneCell']) ?_)
 intro w4 hb4 hm4 hz4
 have r0:=hb4.cell 0
 have r1:=hb4.cell 1
 have HB4:=Fx (aq.own HBW3.out hm4 (by omega))
 have HO4:=Fx (hm4.ownsRow HOW3.out (by intro q hq;simp [Value.ownBlock] at hq;omega))
 simp only[FF] at r0 r1
 clear hb4 hm4 hz4
 go_wp2_with fail
 exact bodyPost_ret (v:=.agg #[.string rel,.slice (some ⟨w.heap.size+1+1,0,none⟩) n n]) (by simp [results,results78,go_sem, *]) rfl ⟨_,rfl,HO4.out,HB4.out⟩
