/- append of a whole row that can be read: no program in sight. osierref09.At, In, SameTexts, AtomVars, walked. osierref09.AtomVars, walked (turned from query.AtomVars). osierref09.Vars, walked. The stages of the document's Parse, plainly. Small plain facts for the walk of the document's Parse. What the document's Parse keeps in memory while it reads an atom's terms. -/
import Derived.Test.YtamjadghncnbcaaGreatDoorGbW
import Derived.Test.YtamjadghncnbcaaGreatDoorGcW
import Derived.Test.YtamjadghncnbcaaGreatDoorGfW
import Derived.Deep.AppendLies
import Derived.OwnWalk
import Derived.Deep.RegionHeld3
namespace Go.Proofs.YtamjadghncnbcaaGreatDoor
open Go.RowKit
set_option linter.unusedVariables false
variable {P : Program}
theorem RowAt.flat {w:World} {b off n cap sz:Nat} {xs:List (List Value)} (hx:RowAt w (.slice (some ⟨b,off,none⟩) n cap) sz xs) (hl:∀ x∈xs,x.length=sz) :
 ∀ j v,xs.flatten[j]? = some v->w.cell? ((⟨b,off,none⟩:Addr).add j)=some v:=by
 have hfl:=flatten_len hl
 intro j v hj
 have hadd:(⟨b,off,none⟩:Addr).add j=⟨b,off+j,none⟩:=by unfold Addr.add;split<;>simp_all
 rw[hadd]
 have hjl:=(List.getElem?_eq_some_iff.1 hj).1
 rw[hfl] at hjl
 have hszp:0<sz:=by
  rcases Nat.eq_zero_or_pos sz with e | e
  ·subst e;simp at hjl
  ·exact e
 have hq:j / sz<xs.length:=Nat.div_lt_of_lt_mul (by rw[Nat.mul_comm];exact hjl)
 have hr:j % sz<sz:=Nat.mod_lt _ hszp
 obtain⟨x,hxj⟩:∃ x,xs[j / sz]? = some x:=⟨xs[j / sz]'(by omega),List.getElem?_eq_getElem (by omega)⟩
 have hxl:=hl x (List.mem_of_getElem? hxj)
 obtain⟨u,hu'⟩:∃ u,x[j % sz]? = some u:=⟨x[j % sz]'(by omega),List.getElem?_eq_getElem (by omega)⟩
 have hfa:=flatten_at hl hxj hu'
 have hjj:j / sz * sz+j % sz=j:=by rw[Nat.mul_comm];exact Nat.div_add_mod j sz
 rw[hjj,hj] at hfa
 obtain⟨b',off',cap3,hv3,_,_,_,hcell⟩:=hx.get hxj
 simp only[Value.slice.injEq,Option.some.injEq,Addr.mk.injEq,and_true] at hv3
 obtain⟨⟨rfl,rfl⟩,_,rfl⟩:=hv3
 have:=hcell (j % sz) u hu'
 rw[Nat.add_assoc,hjj] at this
 rw[this,hfa]
theorem run_append_zero {w:World} (base:Nat) (t ty e:TypeId) (i:TypeInfo) (size:Nat) (ht:P.underlying t=some (.slice e)) (hi:P.info? e=some i)
 (v:Value) (n:Nat) (xs:List Value) (hown:w.ownsRow base e size v n xs) (ad:Option Addr) (c:Nat) :
 (Builtin.append_ #[t,t] ty #[v,.slice ad 0 c]).run P w=.ok v w:=by
 cases ad with
 | none =>
   rcases hown.2 with ⟨rfl,rfl⟩ | ⟨g,cap,cur,rfl,_,_,hnc,_⟩ <;>
    simp [Builtin.append_,run_underlying ht,sizeOf,typeInfo,Builtin.lenOf,Builtin.firstCells,storeCells, *]
 | some ad =>
   have hl:∀ (x:Addr),(loadCells x 0).run P w=.ok #[] w:=fun x=>by simpa using run_loadCells_list (P:=P) w x [] (by simp)
   rcases hown.2 with ⟨rfl,rfl⟩ | ⟨g,cap,cur,rfl,_,_,hnc,_⟩ <;>
    simp [Builtin.append_,run_underlying ht,sizeOf,typeInfo,Builtin.lenOf,Builtin.firstCells,storeCells, *]
theorem wp_append_row {w:World} {o:Oper} {a:Act} {K:Act->World->Prop} {Q:Exit->Act->World->Prop} (s x:Operand) (t:TypeId)
 (ho:o.op=.call { callee:=.builtin .append,args:=#[s,x],argTypes:=#[t,t] })
 (base:Nat) (e:TypeId) (i:TypeInfo) (z:Value) (size bytes:Nat) (ht:P.underlying t=some (.slice e)) (hi:P.info? e=some i) (hz:i.zero=some z)
 (hsize:i.size=size) (hby:i.bytes=bytes) (hzs:z.cells.size=size) (hsz:0<size)
 (v:Value) (n:Nat) (cur:List Value) (hs:a.eval s=v) (hown:w.ownsRow base e size v n cur)
 (xv:Value) (hx:a.eval x=xv) (xs:List (List Value)) (hrow:RowAt w xv size xs) (hl:∀ x∈xs,x.length=size) (h1:∀ x∈xs,∀ u∈x,u.oneCell'=true)
 (h63:n+xs.length<=maxLen) (hbytes:(n+xs.length) * bytes<=140737488355328) (hbase:base<=w.heap.size)
 (h:∀ v' w',w'.ownsRow base e size v' (n+xs.length) (cur++xs.flatten)->w.grownBy w' v.ownBlock->K (a.put o.dst v') w'):o.wp P a w K Q:=by
 by_cases h0:xs=[]
 ·subst h0
  obtain⟨ad,cap,rfl,_,_⟩:=hrow.form
  have hr:=run_append_zero (P:=P) base t o.type e i size ht hi v n cur hown ad cap
  unfold Oper.wp execOp
  simp only[ho,resolve,invoke,builtin,Sem.run_bind,Sem.run_pure,Result.andThen_ok,List.map_toArray,List.map_cons,List.map_nil,hs,hx,List.length_nil,hr]
  exact h v w (by simpa using hown) ⟨rfl,rfl,rfl,Nat.le_refl _,fun _ _ _=>rfl⟩
 ·obtain⟨x0,hx0⟩:∃ x0,xs[0]? = some x0:=⟨xs[0]'(by have:=List.length_pos_iff.2 h0;omega),List.getElem?_eq_getElem (by have:=List.length_pos_iff.2 h0;omega)⟩
  obtain⟨b,off,cap,rfl,_,_,_,_⟩:=hrow.get hx0
  refine wp_append_lies w s x t ho base e i z size bytes ht hi hz hsize hby hzs hsz v n cur hs hown ⟨b,off,none⟩ xs.length cap xs.flatten hx (flatten_len hl) (hrow.flat hl) (by
   intro u hu
   obtain⟨x,hxm,hvx⟩:=List.mem_flatten.1 hu
   exact h1 x hxm u hvx) (List.length_pos_iff.2 h0) h63 hbytes hbase _ rfl ?_
  intro g cap' w' h2 h3 _ _
  exact h _ w' h2 h3
theorem step_append_row {w:World} {ops:Array Oper} {o:Oper} {a:Act} {K:Act->World->Prop} {Q:Exit->Act->World->Prop} {E:Prop} (hgd:o.guard=none) (s x:Operand) (t:TypeId)
 (ho:o.op=.call { callee:=.builtin .append,args:=#[s,x],argTypes:=#[t,t] })
 (base:Nat) (e:TypeId) (i:TypeInfo) (z:Value) (size bytes:Nat) (ht:P.underlying t=some (.slice e)) (hi:P.info? e=some i) (hz:i.zero=some z)
 (hsize:i.size=size) (hby:i.bytes=bytes) (hzs:z.cells.size=size) (hsz:0<size)
 (v:Value) (n:Nat) (cur:List Value) (hs:a.eval s=v) (hown:w.ownsRow base e size v n cur)
 (xv:Value) (hx:a.eval x=xv) (xs:List (List Value)) (hrow:RowAt w xv size xs) (hl:∀ x∈xs,x.length=size) (h1:∀ x∈xs,∀ u∈x,u.oneCell'=true)
 (h63:n+xs.length<=maxLen) (hbytes:(n+xs.length) * bytes<=140737488355328) (hbase:base<=w.heap.size)
 (h:∀ v' w',w'.ownsRow base e size v' (n+xs.length) (cur++xs.flatten)->w.grownBy w' v.ownBlock->K (a.put o.dst v') w') :
 if Region.wanted o (yielded ops a.tmps)=true then Oper.wp P o a w K Q else E:=by
 have hw:Region.wanted o (yielded ops a.tmps)=true:=by simp [Region.wanted,hgd]
 rw[if_pos hw]
 exact wp_append_row s x t ho base e i z size bytes ht hi hz hsize hby hzs hsz v n cur hs hown xv hx xs hrow hl h1 h63 hbytes hbase h
set_option maxHeartbeats 4000000 in
set_option maxRecDepth 100000 in
theorem refAt_any (w:World) (v:Value) (l:List (List UInt8)) (s:List UInt8) (h:StrsAt w v l) :
 Calls Tryz.prog 54 #[v,.string ⟨s.toArray⟩] w fun e w'=>e=.returned (.int .i64 (idxI l s))/\w=w':=by
 obtain⟨ad,cap,rfl,hnc,hcm⟩:=h.form
 have hln:=h.len
 have HR:=Lib.hid h
 unfold maxLen at hcm
 generalize hn:l.length=n at *
 have HN:=Lib.hid hn
 clear h hn
 go_enter Tryz.func54,Tryz.ntmps54
 go_wp2_with fail
 go_loop [5] (fun i=>∃ k:Nat,k<=n/\i=.int .i64 k/\Hid (s ∉ l.take k)) (fun i=>n - (intOf i).toNat)
 case atStart=>exact⟨0,Nat.zero_le _,rfl,Lib.hid (by simp)⟩
 case round =>
  obtain⟨k,hk,rfl,HP⟩:=hrel
  by_cases hlt:k<n
  ·obtain⟨x,hx⟩:∃ x,l[k]? = some x:=⟨l[k]'(by rw[HN.out];exact hlt),List.getElem?_eq_getElem (by rw[HN.out];exact hlt)⟩
   obtain⟨b,off,cap',hv,_,_,hbl,hce⟩:=HR.out.get hx
   rw[HN.out] at hv
   simp only[Value.slice.injEq,true_and] at hv
   obtain⟨rfl,rfl⟩:=hv
   have HX:=Lib.hid hx
   clear hx
   by_cases hq:s=x
   ·subst hq
    go_wp2_with fail
    go_ret
    exact⟨by rw[idxI_hit HX.out HP.out];rfl,rfl⟩
   ·have hq2:¬ ((⟨x.toArray⟩:ByteArray)=⟨s.toArray⟩):=fun e=>hq (bytes_eq.1 e).symm
    have hq3:(x == s)=false:=by simpa using fun e=>hq (Eq.symm e)
    have HQ:=Lib.hid hq
    clear hq
    go_wp2_with fail
    go_round
    case rel =>
     refine⟨k+1,by omega,by go_num,Lib.hid ?_⟩
     rw[List.take_add_one,HX.out]
     simp
     exact⟨HP.out,HQ.out⟩
    case measure=>simp [intOf];omega
  ·obtain rfl:k=n:=by omega
   go_wp2_with fail
   go_ret
   have hp:=HP.out
   rw[List.take_of_length_le (by rw[HN.out];exact Nat.le_refl _)] at hp
   exact⟨by rw[idxI_miss hp];rfl,rfl⟩
set_option maxHeartbeats 4000000 in
set_option maxRecDepth 100000 in
theorem refIn_any (w:World) (v:Value) (l:List (List UInt8)) (s:List UInt8) (h:StrsAt w v l) :
 Calls Tryz.prog 116 #[v,.string ⟨s.toArray⟩] w fun e w'=>e=.returned (.bool (decide (s∈l)))/\w=w':=by
 have HI:=Lib.hid (refAt_any w v l s h)
 have HA:=Lib.hid (idxI_any l s)
 clear h
 go_enter Tryz.func116,Tryz.ntmps116
 go_wp2_with fail
 refine HI.out.mono ?_
 rintro e w' ⟨rfl,rfl⟩
 generalize idxI l s=q at *
 go_wp2_with fail
 go_ret
 exact⟨by rw[<-HA.out];rfl,rfl⟩
theorem list_eq_step {a b:List (List UInt8)} (hl:a.length=b.length) (h:∀ k,k<a.length->a[k]? = b[k]?):a=b:=by
 apply List.ext_getElem?
 intro k
 rcases Nat.lt_or_ge k a.length with h1 | h1
 ·exact h k h1
 ·rw[List.getElem?_eq_none h1,List.getElem?_eq_none (by omega)]
set_option maxHeartbeats 4000000 in
set_option maxRecDepth 100000 in
theorem sameTexts_any (w:World) (va vb:Value) (a b:List (List UInt8)) (ha:StrsAt w va a) (hb:StrsAt w vb b) :
 Calls Tryz.prog 93 #[va,vb] w fun e w'=>e=.returned (.bool (decide (a=b)))/\Below w.heap.size w w':=by
 obtain⟨aa,ac,rfl,hac,ham⟩:=ha.form
 obtain⟨ba,bc,rfl,hbc,hbm⟩:=hb.form
 have hla:=ha.len
 have hlb:=hb.len
 unfold maxLen at ham hbm
 have HA:=Lib.hid ha
 have HB:=Lib.hid hb
 clear ha hb
 by_cases hl:a.length=b.length
 ·generalize hna:a.length=n at *
  generalize hnb:b.length=m at *
  subst hl
  have HL:=Lib.hid hna
  have HN:=Lib.hid hnb
  clear hna hnb
  go_enter Tryz.func93,Tryz.ntmps93
  go_wp2_with fail
  go_loopw [5] (fun i wr=>∃ k:Nat,k<=n/\i=.int .i64 k/\Hid (Below w.heap.size w wr)/\Hid (∀ j,j<k->a[j]? = b[j]?)) (fun i _=>n - (intOf i).toNat)
  case atStart=>exact⟨0,Nat.zero_le _,rfl,Lib.hid (Below.refl _ _),Lib.hid (by simp)⟩
  case round =>
   obtain⟨k,hk,rfl,BW,HP⟩:=hrel
   by_cases hlt:k<n
   ·obtain⟨x,hx⟩:∃ x,a[k]? = some x:=⟨a[k]'(by rw[HL.out];exact hlt),List.getElem?_eq_getElem (by rw[HL.out];exact hlt)⟩
    obtain⟨y,hy⟩:∃ y,b[k]? = some y:=⟨b[k]'(by rw[HN.out];exact hlt),List.getElem?_eq_getElem (by rw[HN.out];exact hlt)⟩
    obtain⟨b1,o1,c1,hv1,_,_,hbl1,k1⟩:=(HA.out.keep BW.out).get hx
    obtain⟨b2,o2,c2,hv2,_,_,hbl2,k2⟩:=(HB.out.keep BW.out).get hy
    rw[HL.out] at hv1
    rw[HN.out] at hv2
    simp only[Value.slice.injEq,true_and] at hv1 hv2
    obtain⟨rfl,rfl⟩:=hv1
    obtain⟨rfl,rfl⟩:=hv2
    have hd:decide ((k:Int)<0)=false:=by simp
    have hd2:decide ((n:Int)<=(k:Int))=false:=by simp;omega
    have HX:=Lib.hid hx
    have HY:=Lib.hid hy
    clear hx hy
    by_cases hq:x=y
    ·subst hq
     go_wp2_with fail
     go_quiet (fail)
     go_wp2_with fail
     go_roundw
     case rel =>
      refine⟨k+1,by omega,by go_num,Lib.hid (bdrewN BW.out _),Lib.hid fun j hj=>?_⟩
      rcases Nat.lt_or_ge j k with h | h
      ·exact HP.out j h
      ·obtain rfl:j=k:=by omega
       rw[HX.out,HY.out]
     case measure=>simp [intOf];omega
    ·have hq2:¬ ((⟨x.toArray⟩:ByteArray)=⟨y.toArray⟩):=fun e=>hq (bytes_eq.1 e)
     have hq3:(x == y)=false:=by simpa using hq
     have hne:a≠b:=fun e=>hq (by have:=HX.out;rw[e,HY.out] at this;exact (Option.some.inj this).symm)
     have HNE:=Lib.hid hne
     clear hq hne
     go_wp2_with fail
     go_quiet (fail)
     go_wp2_with fail
     go_ret
     exact⟨by rw[decide_eq_false HNE.out];rfl,bdrewN BW.out _⟩
   ·obtain rfl:k=n:=by omega
    have heq:a=b:=list_eq_step (by rw[HL.out,HN.out]) (fun j hj=>HP.out j (by rw[HL.out] at hj;exact hj))
    have HEQ:=Lib.hid heq
    clear heq
    go_wp2_with fail
    go_ret
    exact⟨by rw[decide_eq_true HEQ.out];rfl,BW.out⟩
 ·have hne:a≠b:=fun e=>hl (by rw[e])
  rw[decide_eq_false hne]
  have hq:((a.length:Int) == (b.length:Int))=false:=by rw[beq_eq_false_iff_ne];omega
  have hq2:((a.length:Int) != (b.length:Int))=true:=by simp [bne,hq]
  clear hne
  go_enter Tryz.func93,Tryz.ntmps93
  go_wp2_with fail
  go_ret
  exact⟨rfl,Below.refl _ _⟩
set_option maxHeartbeats 8000000 in
set_option maxRecDepth 100000 in
theorem refAtomVars_any (w:World) (rel:ByteArray) (tv:Value) (ts:List Trm) (h:RowAt w tv 4 (ts.map Trm.cells)) (hn:ts.length<=2932031007317) :
 Calls Tryz.prog 163 #[.agg #[.string rel,tv]] w fun e w'=>∃ v,e=.returned v/\OwnS w.heap.size w' v (atomVars ts)/\Below w.heap.size w w':=by
 obtain⟨i0,hi0,hz0,hz1,hz2⟩:=info_parts Tryz.infoStr
 obtain⟨ad,cap,rfl,hnc,hcm⟩:=h.form
 have hln:=h.len
 unfold maxLen at hcm
 simp only[List.length_map] at hnc hln ⊢
 have HR:=Lib.hid h
 generalize hN:ts.length=n at *
 have HN:=Lib.hid hN
 clear h hN
 have bx:=Blk.new w 67 #[.string rel,.slice ad n cap]
 have hW0:(w.alloc (.cells #[.string rel,.slice ad n cap] 67)).heap.size=w.heap.size+1:=by simp
 have hB0:Below w.heap.size w (w.alloc (.cells #[.string rel,.slice ad n cap] 67)):=balloc (Below.refl _ _) _
 have HR0:=Lib.hid (HR.out.keep hB0)
 have HB0:=Lib.hid hB0
 have BX:=Lib.hid bx
 have HW0:=Lib.hid hW0
 clear bx hW0 hB0
 go_enter Tryz.func163,Tryz.ntmps163
 go_wp2_with fail
 obtain⟨W0,hW0⟩:∃ W0,W0=w.alloc (.cells #[.string rel,.slice ad n cap] 67):=⟨_,rfl⟩
 rw[<-hW0] at HW0 HB0 BX HR0 ⊢
 clear hW0
 go_loopw [3,4] (fun v i wr=>∃ (k:Nat) (o:List (List UInt8)) (oa:Option Addr) (oc:Nat),k<=n/\i=.int .i64 k/\v=.slice oa o.length oc/\Hid (OwnS (w.heap.size+1) wr (.slice oa o.length oc) o)/\Hid (Below (w.heap.size+1) W0 wr)/\Hid (o=(ts.take k).foldl addV [])/\o.length<=k) (fun _ i _=>n - (intOf i).toNat)
 case atStart=>exact⟨0,[],none,0,Nat.zero_le _,rfl,rfl,Lib.hid (World.ownsRow_nil _ _ _ _),Lib.hid (Below.refl _ _),Lib.hid rfl,Nat.zero_le _⟩
 case round =>
  obtain⟨k,o,oa,oc,hk,rfl,rfl,OW,HB,HE,hol⟩:=hrel
  have bx:=BX.out.below HB.out (by omega)
  have bx0:=bx.cell 0
  have bx1:=bx.cell 1
  simp only[List.getElem?_toArray,List.getElem?_cons_zero,List.getElem?_cons_succ] at bx0 bx1
  have hbz:=HB.out.size
  rw[HW0.out] at hbz
  clear bx
  by_cases hlt:k<n
  ·obtain⟨t,ht⟩:∃ t,ts[k]? = some t:=⟨ts[k]'(by rw[HN.out];exact hlt),List.getElem?_eq_getElem (by rw[HN.out];exact hlt)⟩
   obtain⟨b,off,cap',hv,_,_,hbl,hce⟩:=(HR0.out.keep (HW0.out.symm ▸ HB.out)).get (i:=k) (x:=t.cells) (by simp [ht])
   simp only[List.length_map,HN.out,Value.slice.injEq,true_and] at hv
   obtain⟨rfl,rfl⟩:=hv
   have q0:=hce 0 _ rfl
   have q1:=hce 1 _ rfl
   have q2:=hce 2 _ rfl
   have q3:=hce 3 _ rfl
   simp only[Nat.add_zero] at q0
   have hst:=foldl_take_succ addV [] ts k t ht
   rw[<-HE.out] at hst
   have HST:=Lib.hid hst
   clear hce ht hst
   by_cases hx:t.x=[]
   ·have hadd:addV o t=o:=by unfold addV;rw[if_pos hx]
    rw[hx] at q0
    have HA:=Lib.hid hadd
    clear hx hadd
    go_wp2_with fail
    go_roundw
    case rel=>exact⟨k+1,o,oa,oc,by omega,by go_num,rfl,OW,HB,Lib.hid (by rw[HST.out,HA.out]),by omega⟩
    case measure=>simp [intOf];omega
   ·have hct:=refIn_any wr _ o t.x (OW.out.strs (by omega))
    have he:=ba_empty hx
    have he2:t.x.isEmpty=false:=by
     cases hxx:t.x with
     | nil=>exact absurd hxx hx
     | cons _ _=>rfl
    have he3:(!t.x.isEmpty)=true:=by rw[he2];rfl
    have HX:=Lib.hid hx
    by_cases hm:t.x∈o
    ·have hadd:addV o t=o:=by unfold addV addN;rw[if_neg hx,if_pos hm]
     rw[decide_eq_true hm] at hct
     have HA:=Lib.hid hadd
     have HC:=Lib.hid hct
     have OWX:=Lib.hid (show wr.ownsRow (w.heap.size+1) 9 1 (.slice oa o.length oc) o.length (o.map fun s=>.string ⟨s.toArray⟩) from OW.out)
     clear hx hadd hm hct
     go_wp2_with fail
     refine HC.out.mono ?_
     rintro e w2 ⟨rfl,rfl⟩
     go_wp2_with fail
     go_roundw
     case rel=>exact⟨k+1,o,oa,oc,by omega,by go_num,rfl,OW,HB,Lib.hid (by rw[HST.out,HA.out]),by omega⟩
     case measure=>simp [intOf];omega
    ·have hadd:addV o t=o++[t.x]:=by unfold addV addN;rw[if_neg hx,if_neg hm]
     rw[decide_eq_false hm] at hct
     have HA:=Lib.hid hadd
     have HC:=Lib.hid hct
     have OWX:=Lib.hid (show wr.ownsRow (w.heap.size+1) 9 1 (.slice oa o.length oc) o.length (o.map fun s=>.string ⟨s.toArray⟩) from OW.out)
     clear hx hadd hm hct
     go_wp2_with fail
     refine HC.out.mono ?_
     rintro e w2 ⟨rfl,rfl⟩
     go_wp2_with (at_builtin;refine wpList_append_lies _ rfl (.tmp 30) (.tmp 37) 26 rfl (w.heap.size+1) 9 i0 (.string ⟨#[]⟩) 1 16 Tryz.underlying26 hi0 hz0 hz1 hz2 rfl (by decide) (.slice oa o.length oc) o.length _ rfl (OWX.out.alloc _) ⟨_,0,none⟩ 1 1 [.string ⟨t.x.toArray⟩] rfl rfl (World.news_of_block (Blk.new _ _ _)) (by simp [Value.oneCell']) (by decide) ?c3 ?c5 ?c4 _ rfl ?_)
     case c3=>unfold maxLen;omega
     case c5=>omega
     case c4=>simp;omega
     intro g cap1 w3 hown2 hgrow2 hat2 hlt2
     have hb3:Below (w.heap.size+1) W0 w3:=(HB.out.alloc hbz _).grown hgrow2 (by simp;omega) (fun q hq=>(OW.out.lt q hq).1)
     have HO:=Lib.hid hown2
     have HB3:=Lib.hid hb3
     clear hown2 hgrow2 hat2 hlt2 hb3
     go_wp2_with fail
     go_roundw
     case rel =>
      refine⟨k+1,o++[t.x],some ⟨g,0,none⟩,cap1,by omega,by go_num,by simp,Lib.hid ?_,HB3,Lib.hid (by rw[HST.out,HA.out]),by simp;omega⟩
      unfold OwnS
      have:=HO.out
      simpa using this
     case measure=>simp [intOf];omega
  ·obtain rfl:k=n:=by omega
   go_wp2_with fail
   go_ret
   refine⟨_,rfl,?_,HB0.out.trans (HB.out.mono (by omega))⟩
   have he:=HE.out
   rw[List.take_of_length_le (by rw[HN.out];exact Nat.le_refl _)] at he
   unfold atomVars
   rw[<-he]
   exact World.ownsRow.low OW.out (by omega)
def allTs (al:List Atm):List Trm:=al.flatMap (·.ts)
theorem allTs_len (al:List Atm):(allTs al).length=tsum al:=by
 unfold allTs tsum
 rw[List.length_flatMap]
theorem mem_addN {o:List (List UInt8)} {x y:List UInt8}:y∈addN o x ↔ y∈o∨y=x:=by
 unfold addN
 split
 ·constructor
  ·exact .inl
  ·rintro (h | rfl)<;>assumption
 ·simp
theorem mem_foldN {y:List UInt8}:∀ (l o:List (List UInt8)),y∈l.foldl addN o ↔ y∈o∨y∈l
 | [],o=>by simp
 | x::l,o=>by
   rw[List.foldl_cons,mem_foldN l,mem_addN]
   simp [or_assoc]
theorem foldV_N (ts:List Trm) (o:List (List UInt8)):∀ n,ts.length=n->ts.foldl addV o=(atomVars ts).foldl addN o:=by
 intro n
 induction n generalizing ts with
 | zero =>
   intro h
   have:ts=[]:=List.eq_nil_of_length_eq_zero h
   subst this
   rfl
 | succ n ih =>
   intro h
   obtain⟨l,t,rfl⟩:∃ l t,ts=l++[t]:=⟨ts.dropLast,ts.getLast (by intro e;simp [e] at h),(List.dropLast_concat_getLast _).symm⟩
   have hl:l.length=n:=by simpa using h
   have h1:=ih l hl
   have h2:atomVars (l++[t])=addV (atomVars l) t:=by unfold atomVars;rw[List.foldl_append];rfl
   rw[List.foldl_append,h1,h2]
   show addV ((atomVars l).foldl addN o) t=_
   unfold addV
   split
   ·rfl
   ·by_cases hm:t.x∈atomVars l
    ·have e1:addN (atomVars l) t.x=atomVars l:=by unfold addN;rw[if_pos hm]
     rw[e1]
     exact if_pos ((mem_foldN _ _).2 (.inr hm))
    ·have e1:addN (atomVars l) t.x=atomVars l++[t.x]:=by unfold addN;rw[if_neg hm]
     rw[e1,List.foldl_append]
     rfl
theorem allTs_vars (al:List Atm):atomVars (allTs al)=qVars al:=by
 have h:∀ (al:List Atm) (o:List (List UInt8)),(allTs al).foldl addV o=al.foldl (fun o a=>(atomVars a.ts).foldl addN o) o:=by
  intro al
  induction al with
  | nil=>intro o;rfl
  | cons a l ih =>
    intro o
    show (a.ts++allTs l).foldl addV o=_
    rw[List.foldl_append,ih,foldV_N a.ts o _ rfl]
    rfl
 exact h al []
theorem trm_one (ts:List Trm):∀ x∈ts.map Trm.cells,∀ u∈x,u.oneCell'=true:=by
 intro x hx u hu
 simp at hx
 obtain⟨t,_,rfl⟩:=hx
 simp only[Trm.cells,List.mem_cons,List.not_mem_nil,or_false] at hu
 rcases hu with rfl | rfl | rfl | rfl<;>rfl
set_option maxHeartbeats 8000000 in
set_option maxRecDepth 100000 in
theorem refVars_any (w:World) (name:ByteArray) (hv av:Value) (al:List Atm) (h:AtomsAt w av al) (hn:al.length<=1048576) (hs:tsum al<=1048576) :
 Calls Tryz.prog 117 #[.agg #[.string name,hv,av]] w fun e w'=>∃ v,e=.returned v/\OwnS w.heap.size w' v (qVars al)/\Below w.heap.size w w':=by
 obtain⟨it,hit,ht0,ht1,ht2⟩:=info_parts Tryz.infoTrm
 obtain⟨ad,cap,rfl,hnc,hcm⟩:=h.form
 unfold maxLen at hcm
 have HR:=Lib.hid h
 have HS:=Lib.hid hs
 have HV:=Lib.hid (allTs_vars al)
 generalize hN:al.length=n at *
 have HN:=Lib.hid hN
 clear h hN hs
 go_enter Tryz.func117,Tryz.ntmps117
 go_wp2_with fail
 go_loopw [4] (fun i wr=>∃ (k:Nat) (tv:Value),k<=n/\i=.int .i64 k/\Hid (Blk wr w.heap.size 29 #[.string name,hv,.slice ad n cap])/\Hid (Blk wr (w.heap.size+1) 67 #[.string ⟨#[]⟩,tv])/\Hid (wr.ownsRow w.heap.size 71 4 tv (tsum (al.take k)) ((allTs (al.take k)).flatMap Trm.cells))/\Hid (Below w.heap.size w wr)) (fun i _=>n - (intOf i).toNat)
 case atStart=>exact⟨0,.slice none 0 0,Nat.zero_le _,rfl,Lib.hid ((Blk.new _ _ _).alloc _),Lib.hid (blkNew1 _ _ _ _),Lib.hid (by simpa [tsum,allTs] using World.ownsRow_nil _ _ _ _),Lib.hid (balloc (balloc (Below.refl _ _) _) _)⟩
 case round =>
  obtain⟨k,tv,hk,rfl,HQ,HA,HO,HB⟩:=hrel
  have q2:=HQ.out.cell 2
  have a0:=HA.out.cell 0
  have a1:=HA.out.cell 1
  have y1:=HA.out.frozen 1
  simp only[List.getElem?_toArray,List.getElem?_cons_zero,List.getElem?_cons_succ] at q2 a0 a1
  have hql:=HQ.out.lt
  have hal:=HA.out.lt
  by_cases hlt:k<n
  ·obtain⟨a,ha⟩:∃ a,al[k]? = some a:=⟨al[k]'(by rw[HN.out];exact hlt),List.getElem?_eq_getElem (by rw[HN.out];exact hlt)⟩
   obtain⟨b,off,cap',xv,hv',_,_,hbl0,g0,g1',hrow0,hal2⟩:=HR.out.get ha
   have hrow:=hrow0.keep HB.out
   have g1:=(HB.out.cell (p:=⟨b,off+k * 2+1,none⟩) hbl0).trans g1'
   have hbz:=HB.out.size
   have hbl:b<wr.heap.size:=by omega
   have hna:=own_blk_ne HO.out HA.out (by decide)
   have hnq:=own_blk_ne HO.out HQ.out (by decide)
   have hnb:some b≠tv.ownBlock:=fun e=>by
    have:=(HO.out.lt b e.symm).1
    omega
   have HNA:=Lib.hid (fun e=>hna (Eq.symm e))
   have HNQ:=Lib.hid (fun e=>hnq (Eq.symm e))
   have HNB:=Lib.hid hnb
   rw[HN.out] at hv'
   simp only[Value.slice.injEq,true_and] at hv'
   obtain⟨rfl,rfl⟩:=hv'
   have hts:=tsum_take_succ ha
   have htl:=tsum_take_le al (k+1)
   have hss:=HS.out
   have hcs:(allTs (al.take (k+1))).flatMap Trm.cells=(allTs (al.take k)).flatMap Trm.cells++(a.ts.map Trm.cells).flatten:=by
    rw[List.take_add_one,ha]
    simp [allTs,map_flat]
   have hd:decide ((k:Int)<0)=false:=by simp
   have hd2:decide ((n:Int)<=(k:Int))=false:=by simp;omega
   have HROW:=Lib.hid hrow
   have HTS:=Lib.hid hts
   have HCS:=Lib.hid hcs
   have hbnd:tsum (al.take k)+a.ts.length<=1048576:=by omega
   generalize tsum (al.take k)=m at *
   clear ha htl hss hts hcs hrow hrow0 g1' g0 hna hnq hnb
   go_wp2_with fail
   go_region_law (refine step_append_row rfl (.tmp 14) (.tmp 20) 65 rfl w.heap.size 71 it (.agg #[.string ⟨#[]⟩,.int .i64 0,.int .i64 0,.string ⟨#[]⟩]) 4 48 Tryz.underlying65 hit ht0 ht1 ht2 rfl (by decide) tv m _ rfl (HO.out.drew) xv rfl (a.ts.map Trm.cells) (HROW.out.keep (bdrew (Below.refl _ _))) (trm_len _) (trm_one _) (by unfold maxLen;simp;omega) (by simp;omega) (by simp;omega) ?_;intro v' w6 hown6 hgrow6;obtain⟨va,vc,rfl⟩:=own_sl hown6;have y6:=(hgrow6.frozen_far ⟨w.heap.size+1,1,none⟩ hal HNA.out).trans y1;have c6:=(hgrow6.cell_far ⟨w.heap.size+1,1,none⟩ hal HNA.out).trans a1)
   all_goals
    have hq6:=(HQ.out.drew.grown hgrow6 HNQ.out).far (p:=⟨w.heap.size+1,1,none⟩) (by simp) (.slice va (m+(a.ts.map Trm.cells).length) vc)
    have ha6:=HA.out.drew.grown hgrow6 HNA.out
    have ha7:=ha6.set_ 1 (.slice va (m+(a.ts.map Trm.cells).length) vc)
    have ms:MT 0 [67] w6 (w6.setCell ⟨w.heap.size+1,1,none⟩ (.slice va (m+(a.ts.map Trm.cells).length) vc)):=MT.setCell (MT.refl w6) ha6 (by simp) (Nat.zero_le _) _
    have hb7:=((bdrew HB.out).grown hgrow6 (by simp;omega) (fun q hq=>(HO.out.lt q hq).1)).setCell (p:=⟨w.heap.size+1,1,none⟩) (by simp) (.slice va (m+(a.ts.map Trm.cells).length) vc)
    have ho7:=ms.ownsRow hown6 (by decide)
    simp only[List.length_map] at hq6 ha7 hb7 ho7
    have HQ7:=Lib.hid hq6
    have HA7:=Lib.hid ha7
    have HB7:=Lib.hid hb7
    have HO7:=Lib.hid ho7
    clear hq6 ha6 ha7 ms hb7 ho7 hown6 hgrow6 y6 c6
    go_wp2_with fail
    go_roundw
    case rel =>
     refine⟨k+1,_,by omega,by go_num,HQ7,Lib.hid (by simpa using HA7.out),Lib.hid ?_,HB7⟩
     rw[HTS.out,HCS.out]
     exact HO7.out
    case measure=>simp [intOf];omega
  ·obtain rfl:k=n:=by omega
   have hb0:=HB.out
   have hw:AtomsAt w (.slice ad k cap) al:=HR.out
   have ho:=HO.out
   rw[List.take_of_length_le (by rw[HN.out];exact Nat.le_refl _)] at ho
   have hrow:RowAt wr tv 4 ((allTs al).map Trm.cells):=RowAt.ofOwn (by rw[map_flat];exact ho) (by rw[List.length_map,allTs_len]) (trm_len _) (by rw[List.length_map,allTs_len];have:=HS.out;omega)
   have hav:=refAtomVars_any wr ⟨#[]⟩ tv (allTs al) hrow (by rw[allTs_len];have:=HS.out;omega)
   rw[HV.out] at hav
   have HAV:=Lib.hid hav
   clear hav hrow ho hw hb0
   go_wp2_with fail
   refine HAV.out.mono ?_
   rintro e w2 ⟨v,rfl,hown,hb⟩
   have HOW:=Lib.hid (World.ownsRow.low hown HB.out.size)
   have HB2:=Lib.hid (HB.out.trans (hb.mono HB.out.size))
   clear hown hb
   go_wp2_with fail
   go_ret
   exact⟨_,rfl,HOW.out,HB2.out⟩
def q4 (n:NmP) (hs:List NmP) (al:List AtP) (X:Tok × LS):PR Qry:=outS (endS n hs al X.2) (qryOf n hs al)
def q3 (n:NmP) (hs:List NmP) (G:LS × List AtP):PR Qry:=q4 n hs G.2 (wantS 0 [] G.1)
def q2d (n:NmP) (hs:List NmP) (X:Tok × LS):PR Qry:=q3 n hs (atomsS X.2)
def q2c (n:NmP) (hs:List NmP) (X:Tok × LS):PR Qry:=q2d n hs (wantS 3 [58,45] X.2)
def q2b (n:NmP) (G:LS × List NmP):PR Qry:=q2c n G.2 (wantS 3 [41] G.1)
def q2a (n:NmP) (X:Tok × LS):PR Qry:=q2b n (gloop nameS (meas X.2+1) X.2 [])
def q1 (X:Tok × LS):PR Qry:=q2a (X.1.x,X.1.p) (wantS 3 [40] X.2)
theorem refQ_q1 (S:LS):refQ S=q1 (wantS 1 [] S):=rfl
def NB (s:LS):Prop:=∀ a e,s=.bad a e->e≠0
theorem want0_nb {s:LS} (h:Good s):NB (wantS 0 [] s).2:=by
 cases s with
 | bad a e =>
   intro a' e' h'
   injection h' with _ h2
   subst h2
   exact h
 | ok c =>
   show NB (wantT 0 [] c).2
   unfold wantT
   split
   ·intro a e h'
    cases h'
   ·intro a e h'
    injection h' with _ h2
    subst h2
    decide
theorem fail_nb {s:LS} (h:NB s) (a e:Int) (he:e≠0):NB (failS a e s):=by
 cases s with
 | bad a' e'=>exact h
 | ok c =>
   intro a' e' h'
   injection h' with _ h2
   subst h2
   exact he
theorem ln_meas {w:World} {b:Nat} {s:LS} {vt:Value} (h:Ln w b s vt):meas s<=100001:=by
 cases s with
 | bad a e=>simp [meas]
 | ok c =>
   obtain⟨ts,i,a,e,h1,_,h2⟩:=h
   have:=h1.len
   subst h2
   simp [meas]
   omega
theorem blkNewS (w:World) (p:Addr) (u:Value) (t:TypeId) (cs:Array Value):Blk ((w.setCell p u).alloc (.cells cs t)) w.heap.size t cs:=by
 have:=Blk.new (w.setCell p u) t cs
 simpa using this
theorem more_le (n:Nat) (s:LS):meas (moreS n s).2<=meas s:=by
 cases s with
 | bad a e=>exact Nat.le_refl _
 | ok c =>
   rw[moreS_ok]
   split
   ·exact Nat.le_refl _
   ·split
    ·simp [meas]
    ·exact Nat.le_refl _
theorem gloop_meas {α:Type} {step:LS->α × LS} (hs:∀ s,meas (step s).2<=meas s):∀ (f:Nat) (s:LS) (ys:List α),meas (gloop step f s ys).1<=meas s
 | 0,s,ys=>Nat.le_refl _
 | f+1,s,ys=>by
   cases hc:(moreS ys.length s).1 with
   | false=>rw[gloop_end step (f+1) hc];exact Nat.le_refl _
   | true =>
     rw[gloop_go step f hc]
     have h1:=gloop_meas hs f (step (moreS ys.length s).2).2 (ys++[(step (moreS ys.length s).2).1])
     have h2:=hs (moreS ys.length s).2
     have h3:=more_le ys.length s
     omega
theorem termS_meas (s:LS):meas (termS s).2<=meas s:=by
 cases s with
 | bad a e=>exact Nat.le_refl _
 | ok c =>
   show meas (if (headT c).k=2 then _ else _:(Trm × Int) × LS).2<=_
   split
   ·exact want_meas 2 [] (.ok c)
   ·exact want_meas 1 [] (.ok c)
theorem listS_meas {α:Type} {step:LS->α × LS} (hs:∀ s,meas (step s).2<=meas s) (s:LS):meas (listS step s).2<=meas s:=by
 unfold listS
 have h1:=want_meas 3 [40] s
 have h2:=gloop_meas hs (meas (wantS 3 [40] s).2+1) (wantS 3 [40] s).2 []
 have h3:=want_meas 3 [41] (gloop step (meas (wantS 3 [40] s).2+1) (wantS 3 [40] s).2 []).1
 simp only
 omega
theorem atomS_meas (s:LS):meas (atomS s).2<=meas s:=by
 unfold atomS
 have h1:meas (nameS s).2<=meas s:=want_meas 1 [] s
 have h2:=listS_meas termS_meas (nameS s).2
 simp only
 omega
def lo (xs:List (Trm × Int)):List Int:=(xs[5]?.map (·.2)).toList
theorem lo_six {xs:List (Trm × Int)} (x:Trm × Int) (h:xs.length=5):lo xs=[]/\lo (xs++[x])=[x.2]:=by
 unfold lo
 constructor
 ·rw[List.getElem?_eq_none (by omega)]
  rfl
 ·rw[List.getElem?_append_right (by omega),h]
  rfl
theorem lo_keep {xs:List (Trm × Int)} (x:Trm × Int) (h:xs.length≠5):lo (xs++[x])=lo xs:=by
 unfold lo
 rcases Nat.lt_or_ge 5 xs.length with h1 | h1
 ·rw[List.getElem?_append_left h1]
 ·rw[List.getElem?_eq_none (l:=xs) (by omega),List.getElem?_eq_none (by simp;omega)]
theorem over_snoc (al:List AtP) (n:NmP) (xs:List (Trm × Int)):overOf (al++[(n,xs)])=overOf al++lo xs:=by
 unfold overOf lo
 rw[List.filterMap_append]
 congr 1
theorem lo_len (xs:List (Trm × Int)):(lo xs).length<=1:=by
 unfold lo
 cases xs[5]? <;> simp
theorem over_len (al:List AtP):(overOf al).length<=al.length:=List.length_filterMap_le _ _
def atS2 (n:NmP) (G:LS × List (Trm × Int)):AtP × LS:=((n,G.2),(wantS 3 [41] G.1).2)
def atS1b (n:NmP) (Y:Tok × LS):AtP × LS:=atS2 n (gloop termS (meas Y.2+1) Y.2 [])
def atS1 (X:Tok × LS):AtP × LS:=atS1b (X.1.x,X.1.p) (wantS 3 [40] X.2)
theorem atomS_atS1 (s:LS):atomS s=atS1 (wantS 1 [] s):=rfl
def ALp (s:LS) (al:List AtP) (G:LS × List AtP):Prop:=(al=[]/\atomsS s=G/\meas s<=100001)∨(al≠[]/\∃ f,meas s<=f/\al.length+f<=200000/\gloop atomS f s al=G)
theorem ALp.len {s:LS} {al:List AtP} {G:LS × List AtP} (h:ALp s al G):al.length<=200000:=by
 rcases h with ⟨rfl,_⟩ | ⟨_,f,_,h,_⟩
 ·simp
 ·omega
theorem ALp.first {s:LS} {al:List AtP} {G:LS × List AtP} (h:ALp s al G) (h0:al=[]):∃ f,meas (atomS s).2<=f/\al.length+1+f<=200000/\gloop atomS f (atomS s).2 (al++[(atomS s).1])=G:=by
 rcases h with ⟨rfl,h1,h2⟩ | ⟨h,_⟩
 ·exact⟨meas (atomS s).2,Nat.le_refl _,by have:=atomS_meas s;simp;omega,h1⟩
 ·exact absurd h0 h
theorem ALp.more {s:LS} {al:List AtP} {G:LS × List AtP} (h:ALp s al G) (h0:al≠[]) (hg:Good s) (hm:(moreS al.length s).1=true):∃ f,meas (atomS (moreS al.length s).2).2<=f/\al.length+1+f<=200000/\gloop atomS f (atomS (moreS al.length s).2).2 (al++[(atomS (moreS al.length s).2).1])=G:=by
 rcases h with ⟨h,_⟩ | ⟨_,f,h1,h2,h3⟩
 ·exact absurd h h0
 ·obtain⟨k1,k2,k3⟩:=more_meas hg hm
  have k4:=k3 (fun e=>h0 (List.eq_nil_of_length_eq_zero e))
  obtain⟨f,rfl⟩:∃ g,f=g+1:=⟨f - 1,by omega⟩
  rw[gloop_go atomS f hm] at h3
  have k5:=atomS_meas (moreS al.length s).2
  exact⟨f,by omega,by omega,h3⟩
theorem ALp.done {s:LS} {al:List AtP} {G:LS × List AtP} (h:ALp s al G) (h0:al≠[]) (hm:(moreS al.length s).1=false):G=(s,al):=by
 rcases h with ⟨h,_⟩ | ⟨_,f,h1,h2,h3⟩
 ·exact absurd h h0
 ·rw[gloop_end atomS f hm] at h3
  exact h3.symm
theorem ALp.next {s:LS} {al:List AtP} {G:LS × List AtP} {a:AtP} {f:Nat} (h1:meas s<=f) (h2:al.length+1+f<=200000) (h3:gloop atomS f s (al++[a])=G):ALp s (al++[a]) G :=
 .inr ⟨by simp,f,h1,by simp;omega,h3⟩
theorem lim_some {al:List AtP} {a:AtP} (h:al[6]? = some a) (s:LS):limS al s=failS a.1.2 90 s:=by
 unfold limS
 rw[h]
theorem lim_none {al:List AtP} (h:al[6]? = none) (s:LS):limS al s=s:=by
 unfold limS
 rw[h]
theorem over_some {al:List AtP} {p:Int} (h:(overOf al)[0]? = some p) (s:LS):overS al s=failS p 91 s:=by
 unfold overS
 rw[h]
theorem over_none {al:List AtP} (h:(overOf al)[0]? = none) (s:LS):overS al s=s:=by
 unfold overS
 rw[h]
theorem dupS_step (hs:List NmP) (m k:Nat) {h:NmP} (hh:hs[k]? = some h) (s:LS):dupS hs (m+1) k s=dupS hs m (k+1) (if idxI (hs.map (·.1)) h.1<k then failS h.2 92 s else s):=by
 rw[dupS,hh]
theorem lackS_step (V:List (List UInt8)) (hs:List NmP) (m k:Nat) {h:NmP} (hh:hs[k]? = some h) (c:List Tok):lackS V hs (m+1) k (.ok c)=lackS V hs m (k+1) (if h.1∈V then .ok c else .bad h.2 93):=by
 rw[lackS,hh]
theorem over_ok {al:List AtP} {s:LS} {c:List Tok} (h:overS al (limS al s)=.ok c):limP al=none:=by
 cases s with
 | bad a e=>rw[limS_bad,overS_bad] at h;cases h
 | ok c' =>
   unfold limS at h
   unfold limP
   cases h6:al[6]? with
   | some a =>
     rw[h6] at h
     simp only[failS] at h
     rw[overS_bad] at h
     cases h
   | none =>
     rw[h6] at h
     simp only at h ⊢
     have hg:=limG_over al
     cases hl:limG al with
     | none=>rfl
     | some x =>
       rw[hl] at hg
       unfold overS at h
       rw[hg.1] at h
       simp only[failS] at h
       cases h
theorem dupS_ok {hs:List NmP} {c:List Tok}:∀ {m k:Nat} {s:LS},dupS hs m k s=.ok c->∃ c',s=.ok c'
 | m,k,.bad a e,h=>by rw[dupS_bad] at h;cases h
 | m,k,.ok c',h=>⟨c',rfl⟩
theorem blkNew2 (w:World) (o1 o2:Obj) (t:TypeId) (cs:Array Value):Blk (((w.alloc o1).alloc o2).alloc (.cells cs t)) (w.heap.size+1+1) t cs:=by
 have h:=Blk.new ((w.alloc o1).alloc o2) t cs
 simpa using h
structure IN (w0 wb w:World) (b ab:Nat) (vt:Value) (s:LS) (rel:List UInt8) (jv:Value) (xs:List (Trm × Int)) (v1 v2 v3:Value) (l1 l2 l3:List Int):Prop where
 ln:Ln w b s vt
 mt:MT w0.heap.size [101,3] wb w
 ab:Blk w ab 67 #[.string ⟨rel.toArray⟩,jv]
 tr:w.ownsRow wb.heap.size 71 4 jv xs.length (xs.flatMap fun x=>x.1.cells)
 p3:P3 w0.heap.size w v1 v2 v3 l1 l2 l3
section
variable {w0 wb w w' w1 : World} {b ab : Nat} {vt : Value} {s s' : LS} {rel : List UInt8} {jv : Value} {xs : List (Trm × Int)} {v1 v2 v3 : Value} {l1 l2 l3 : List Int}
theorem IN.keep (h:IN w0 wb w b ab vt s rel jv xs v1 v2 v3 l1 l2 l3) (hb:Below w.heap.size w w'):IN w0 wb w' b ab vt s rel jv xs v1 v2 v3 l1 l2 l3 :=
 ⟨h.ln.keep hb,h.mt.plusBelow hb,h.ab.mt (MT.ofBelow (B:=0) (Ts:=[]) hb) (by simp),(MT.ofBelow (B:=0) (Ts:=[]) hb).ownsRow h.tr (by simp),h.p3.keep hb⟩
theorem IN.line (h:IN w0 wb w b ab vt s rel jv xs v1 v2 v3 l1 l2 l3) (hm:MT b [101] w w') (hl:Ln w' b s' vt) (hb:w0.heap.size<=b):IN w0 wb w' b ab vt s' rel jv xs v1 v2 v3 l1 l2 l3 :=
 ⟨hl,h.mt.trans (hm.mono (by simp) hb),h.ab.mt hm (by decide),hm.ownsRow h.tr (by decide),h.p3.mt hm (by decide)⟩
theorem IN.term {jv':Value} {x:Trm × Int} (h:IN w0 wb w b ab vt s rel jv xs v1 v2 v3 l1 l2 l3) (hg:w.grownBy w1 jv.ownBlock) (hab:wb.heap.size<=ab)
 (hown:w1.ownsRow wb.heap.size 71 4 jv' (xs.length+1) ((xs.flatMap fun x=>x.1.cells)++x.1.cells)):IN w0 wb (w1.setCell ⟨ab,1,none⟩ jv') b ab vt s rel jv' (xs++[x]) v1 v2 v3 l1 l2 l3:=by
 have m:MT wb.heap.size [71] w w1:=(MT.refl w).grown hg h.tr (by simp) (Nat.le_refl _)
 have a1:=h.ab.mt m (by decide)
 have ms:MT wb.heap.size [67] w1 (w1.setCell ⟨ab,1,none⟩ jv'):=MT.setCell (MT.refl w1) a1 (by simp) hab _
 have mm:MT wb.heap.size [71,67] w (w1.setCell ⟨ab,1,none⟩ jv'):=(m.wide (by simp)).trans (ms.wide (by simp))
 have m0:MT w0.heap.size [101,3] wb w1:=Mod.grown h.mt hg fun k hk hlt=>by
  have:=(h.tr.lt k hk).1
  omega
 refine⟨h.ln.mt mm (by decide) (by decide),m0.own (b:=ab) ((Mod.refl (fun k=>k=ab) w1).setCell (p:=⟨ab,1,none⟩) (fun _=>rfl) jv') hab,?_,?_,h.p3.mt mm (by decide)⟩
 ·simpa using a1.set_ 1 jv'
 ·have:=ms.ownsRow hown (by decide)
  simpa using this
theorem IN.over {g cap:Nat} {p:Int} (h:IN w0 wb w b ab vt s rel jv xs v1 v2 v3 l1 l2 l3) (hg:w.grownBy w1 v1.ownBlock)
 (hown:w1.ownsRow w0.heap.size 3 1 (.slice (some ⟨g,0,none⟩) (l1.length+1) cap) (l1.length+1) ((l1.map fun p=>.int .i64 p)++[.int .i64 p])) (hat:v1.ownBlock=some g∨g=w.heap.size) :
 IN w0 wb w1 b ab vt s rel jv xs (.slice (some ⟨g,0,none⟩) (l1.length+1) cap) v2 v3 (l1++[p]) l2 l3:=by
 have m:MT w0.heap.size [3] w w1:=(MT.refl w).grown hg h.p3.o1 (by simp) (Nat.le_refl _)
 exact⟨h.ln.mt m (by decide) (by decide),h.mt.trans (m.wide (by simp)),h.ab.mt m (by decide),m.ownsRow h.tr (by decide),h.p3.grow hg hown hat⟩
end
set_option maxHeartbeats 1000000 in
set_option maxRecDepth 100000 in
theorem refParse_ret {w0 W:World} {x y z p q:Value} {T:Array Value} {Post:Ending->World->Prop} (h:Blk W w0.heap.size 29 #[x,y,z]) (h2:T[2]?.getD undef=.pointer (some ⟨w0.heap.size,0,none⟩)) (h3:T[3]?.getD undef=p) (h4:T[4]?.getD undef=q)
 (hP:Post (.returned (.tuple #[.agg #[x,y,z],p,q])) W):bodyPost Tryz.prog Tryz.f57 Post Exit.ret { tmps:=T,defers:=[] } W:=by
 have c0:=h.cell 0
 have c1:=h.cell 1
 have c2:=h.cell 2
 simp only[List.getElem?_toArray,List.getElem?_cons_zero,List.getElem?_cons_succ] at c0 c1 c2
 exact bodyPost_ret (v:=.tuple #[.agg #[x,y,z],p,q]) (by simp [results,Tryz.results57,go_sem,h2,h3,h4,c0,c1,c2]) rfl hP
end Go.Proofs.YtamjadghncnbcaaGreatDoor
