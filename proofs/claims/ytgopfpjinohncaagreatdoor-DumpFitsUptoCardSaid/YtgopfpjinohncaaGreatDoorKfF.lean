/- A declaration's text is cut into tokens, and read as the declaration: -/
import Derived.Test.YtgopfpjinohncaaGreatDoorLfF
import Derived.Test.YtgopfpjinohncaaGreatDoorGmF
import Derived.Test.YtgopfpjinohncaaGreatDoorShelfJZF
import Derived.Test.YtgopfpjinohncaaGreatDoorKdF
set_option maxHeartbeats 8000000
set_option maxRecDepth 100000
set_option linter.unusedVariables false
namespace Go.Proofs.YtgopfpjinohncaaGreatDoor
open Go.Proofs.Tryz
open Go.RowKit
def jh (r:List UInt8) (p:Nat) (ts:List ak):Prop:=LX r p=⟨ts,0,0⟩
def i6 (x:List UInt8) (p:Nat):ak:=⟨1,x,0,0,[],p⟩
def oZ (x:List UInt8) (p:Nat):ak:=⟨3,x,0,0,[],p⟩
def ml (y:List UInt8):Prop:=(aR (bt y 0) || au (bt y 0))=false
theorem sJ (p:Nat):jh [] p [aF p]:=eG (.inl rfl)
theorem wQ {y:List UInt8} {p:Nat} {ts:List ak} (h:jh y (p+1) ts):jh (32::y) p ts:=by
 unfold jh at h ⊢
 rw[dz (by simp [bt]) (by simp [bt,fZ])]
 simpa using h
theorem sq {x y:List UInt8} {p:Nat} {ts:List ak} {t:ak} (ho:aA (x++y) p=(t,0)) (hx:t.x=x) (hne:x≠[]) (h35:bt x 0≠35) (hsp:fZ (bt x 0)=false) (h:jh y (p+x.length) ts):jh (x++y) p (t::ts):=by
 unfold jh at h ⊢
 rw[gE (fJ hne h35) (by rw[em hne];exact hsp) (by rw[ho]),ho]
 simp only[hx,List.drop_left]
 rw[h]
 simp
theorem mz {x y:List UInt8} {p:Nat} {ts:List ak} (hx:ai x=true) (hy:ml y) (h:jh y (p+x.length) ts):jh (x++y) p (i6 x p::ts):=by
 unfold ai at hx
 simp only[decide_eq_true_eq] at hx
 obtain⟨h1,h2,h3,h4⟩:=hx
 have hb:∀ c:Int,aR c=true->c≠35/\fZ c=false/\c≠58/\c≠34/\au c=false/\c≠45/\c≠40/\c≠41/\c≠44/\c≠43:=by
  intro c hc
  unfold aR at hc
  unfold fZ au
  simp only[decide_eq_true_eq,decide_eq_false_iff_not] at hc ⊢
  omega
 obtain⟨c1,c2,c3,c4,c5,c6,c7,c8,c9,c10⟩:=hb _ h2
 have hr:ap (x++y)=x.length:=iw (x:=x) (y:=y) (rest:=[]) (by rw[List.append_nil];exact h3) (fun e=>by unfold ml at hy;rw[hy] at e;cases e)
 have ho:aA (x++y) p=(i6 x p,0):=by
  have b0:=em (y:=y) h1
  unfold aA
  rw[b0,if_neg c3,if_neg (by rw[c5];simp [c4,c6]),if_neg (by simp [c6,c7,c8,c9,c10]),if_pos h2,if_neg (by omega),hr,List.take_left]
  rfl
 exact sq ho rfl h1 c1 c2 h
theorem km {c:UInt8} {y:List UInt8} {p:Nat} {ts:List ak} (hc:c=40∨c=41∨c=44) (h:jh y (p+1) ts):jh (c::y) p (oZ [c] p::ts):=by
 have ho:aA ([c]++y) p=(oZ [c] p,0):=by
  rcases hc with rfl | rfl | rfl<;>simp [aA,bt,au,oZ]
 refine sq (x:=[c]) ho rfl (by simp) ?_ ?_ h
 ·rcases hc with rfl | rfl | rfl<;>simp [bt]
 ·rcases hc with rfl | rfl | rfl<;>simp [bt,fZ]
theorem uy (k:Int):ai (bM k)=true:=by
 unfold bM
 split<;>kernel_rfl
theorem tX {c:bd} {y:List UInt8} {p:Nat} {ts:List ak} (hc:ai c.x=true) (hy:ml y) (h:jh y (p+c.x.length+1+(bM c.k).length) ts):jh (eh c++y) p (i6 c.x p::i6 (bM c.k) (p+c.x.length+1)::ts):=by
 unfold eh
 rw[List.append_assoc,List.append_assoc]
 exact mz hc (by simp [ml,bt,aR,au]) (wQ (mz (uy _) hy h))
theorem pk {c:bd} (hk:jM c=false) (p q:Nat) (ts:List ak):eo (i6 c.x p::i6 (bM c.k) q::ts)=.ok (c.x,c.k,p) ts:=by
 have h1:tk 1 [] (i6 c.x p::i6 (bM c.k) q::ts)=.ok (i6 c.x p) (i6 (bM c.k) q::ts):=by simp [tk,i6]
 have hk':c.k=1∨c.k=2:=by
  unfold jM at hk
  simp only[decide_eq_false_iff_not] at hk
  omega
 rcases hk' with hk' | hk'
 ·have h2:tk 1 [[105,110,116],[116,101,120,116]] (i6 (bM c.k) q::ts)=.ok (i6 (bM c.k) q) ts:=by simp [tk,i6,hk',bM]
  rw[mY h1 h2]
  simp [i6,hk',bM]
 ·have h2:tk 1 [[105,110,116],[116,101,120,116]] (i6 (bM c.k) q::ts)=.ok (i6 (bM c.k) q) ts:=by simp [tk,i6,hk',bM]
  rw[mY h1 h2]
  simp [i6,hk',bM]
theorem p7:∀ (cs:List bd) (p:Nat),(∀ c∈cs,ai c.x=true/\jM c=false) ->
 ∃ (ts:List ak) (zs:List jU) (q1 q2:Nat),jh (Lib.joinTail [44,32] (cs.map eh)++[41]) p ts/\zs.map jj=cs/\∀ ys,bz eo ys ts=.ok (ys++zs) [oZ [41] q1,aF q2]
 | [],p,_=>by
   refine⟨[oZ [41] p,aF (p+1)],[],p,p+1,?_,rfl,fun ys=>?_⟩
   ·show jh [41] p _
    exact km (.inr (.inl rfl)) (sJ _)
   ·rw[cY ys (by simp [cV,oZ]),List.append_nil]
 | c::cs,p,h=>by
   obtain⟨h1,h2⟩:=h c List.mem_cons_self
   obtain⟨ts,zs,q1,q2,k1,k2,k3⟩:=p7 cs (p+1+1+c.x.length+1+(bM c.k).length) (fun d hd=>h d (List.mem_cons_of_mem _ hd))
   have e:Lib.joinTail [44,32] ((c::cs).map eh)++[41]=44::32::(eh c++(Lib.joinTail [44,32] (cs.map eh)++[41])):=by
    simp [Lib.joinTail]
   have hs:ml (Lib.joinTail [44,32] (cs.map eh)++[41]):=by
    cases cs with
    | nil=>simp [ml,Lib.joinTail,bt,aR,au]
    | cons d r=>simp [ml,Lib.joinTail,bt,aR,au]
   have hc:=tX (p:=p+1+1) h1 hs k1
   refine⟨oZ [44] p::i6 c.x (p+1+1)::i6 (bM c.k) (p+1+1+c.x.length+1)::ts,(c.x,c.k,((p+1+1:Nat):Int))::zs,q1,q2,?_,by simp [jj,k2],fun ys=>?_⟩
   ·rw[e]
    exact km (.inr (.inr rfl)) (wQ hc)
   ·have hp:=pk h2 (p+1+1) (p+1+1+c.x.length+1) ts
    have:=dQ kx ys (c:=oZ [44] p::i6 c.x (p+1+1)::i6 (bM c.k) (p+1+1+c.x.length+1)::ts) (c1:=ts) (x:=(c.x,c.k,((p+1+1:Nat):Int))) (by simp [cV,oZ]) (by simpa using hp)
    rw[this.1,k3]
    simp
theorem eM {nm:List UInt8} {cs:List bd} (h:cr nm cs=0):ai nm=true/\(∀ c∈cs,ai c.x=true/\jM c=false)/\cs.length<=5/\dE cs = -1:=by
 unfold cr at h
 split at h
 ·cases h
 ·rename_i h1
  split at h
  ·cases h
  ·rename_i h2
   split at h
   ·cases h
   ·rename_i h3
    split at h
    ·cases h
    ·rename_i h4
     split at h
     ·cases h
     ·rename_i h5
      refine⟨by simpa using h1,fun c hc=>⟨?_,?_⟩,by omega,?_⟩
      ·have:=List.any_eq_false.1 (by simpa using h2:(cs.any fun c => !ai c.x)=false) c hc
       simpa using this
      ·have:=List.any_eq_false.1 (by simpa using h4:cs.any jM=false) c hc
       simpa using this
      ·rcases fK cs [] 0 with h6 | ⟨j,h6,_⟩
       ·exact h6
       ·exact absurd (show 0<=dE cs by unfold dE;rw[h6];exact Int.natCast_nonneg _) h5
theorem CQ {nm:List UInt8} {cs:List bd} (h1:ai nm=true) (h2:∀ c∈cs,ai c.x=true/\jM c=false) (h3:cs.length<=5) (h4:dE cs = -1):cr nm cs=0:=by
 unfold cr
 rw[if_neg (by rw[h1];decide),if_neg,if_neg (by omega),if_neg,if_neg (by rw[h4];decide)]
 ·have:cs.any jM=false:=List.any_eq_false.2 fun c hc=>by rw[(h2 c hc).2];decide
  rw[this]
  decide
 ·have:(cs.any fun c => !ai c.x)=false:=List.any_eq_false.2 fun c hc=>by rw[(h2 c hc).1];decide
  rw[this]
  decide
theorem pq {nm:List UInt8} {cs:List bd} (h:cr nm cs=0) (p0:Nat:=0):∃ ts,jh (ct nm cs) p0 ts/\jG ts=.ok ⟨nm,cs⟩ []:=by
 obtain⟨h1,h2,h3,h4⟩:=eM h
 unfold ct
 rw[if_pos h]
 have hfin:∀ (ts:List ak) (l:List jU) (q:Nat),aJ eo ts=.ok l [aF q]->l.map jj=cs->jG (i6 nm p0::ts)=.ok ⟨nm,cs⟩ []:=by
  intro ts l q hl hc
  have e1:tk 1 [] (i6 nm p0::ts)=.ok (i6 nm p0) ts:=by simp [tk,i6]
  have e3:tk 0 [] [aF q]=.ok (aF q) [aF q]:=by simp [tk,aF]
  have hl5:l.length=cs.length:=by rw[<-hc,List.length_map]
  rw[mB e1 hl e3,mI (List.getElem?_eq_none (by omega)) (by rw[hc];exact h4)]
  show PR.ok (kG nm l) []=_
  unfold kG
  rw[hc]
 cases cs with
 | nil =>
   refine⟨[i6 nm p0,oZ [40] (p0+nm.length),oZ [41] (p0+nm.length+1),aF (p0+nm.length+1+1)],?_,?_⟩
   ·have e:nm++[40]++Lib.join ([].map eh) [44,32]++[41]=nm++(40::[41]):=by simp [Lib.join_nil]
    rw[e]
    exact mz h1 (by simp [ml,bt,aR,au]) (km (.inl rfl) (km (.inr (.inl rfl)) (sJ _)))
   ·refine hfin _ [] _ (eY (t:=oZ [40] (p0+nm.length)) (c1:=[oZ [41] (p0+nm.length+1),aF (p0+nm.length+1+1)]) (by simp [tk,oZ]) (by simp [cV,oZ])) rfl
 | cons c cs =>
   obtain⟨k1,k2⟩:=h2 c List.mem_cons_self
   obtain⟨ts,zs,q1,q2,j1,j2,j3⟩:=p7 cs (p0+nm.length+1+c.x.length+1+(bM c.k).length) (fun d hd=>h2 d (List.mem_cons_of_mem _ hd))
   have hs:ml (Lib.joinTail [44,32] (cs.map eh)++[41]):=by
    cases cs with
    | nil=>simp [ml,Lib.joinTail,bt,aR,au]
    | cons d r=>simp [ml,Lib.joinTail,bt,aR,au]
   have e:nm++[40]++Lib.join ((c::cs).map eh) [44,32]++[41]=nm++(40::(eh c++(Lib.joinTail [44,32] (cs.map eh)++[41]))):=by
    rw[List.map_cons,Lib.join_cons]
    simp
   have hc:=tX (p:=p0+nm.length+1) k1 hs j1
   refine⟨i6 nm p0::oZ [40] (p0+nm.length)::i6 c.x (p0+nm.length+1)::i6 (bM c.k) (p0+nm.length+1+c.x.length+1)::ts,?_,?_⟩
   ·rw[e]
    exact mz h1 (by simp [ml,bt,aR,au]) (km (.inl rfl) hc)
   ·have hp:=pk k2 (p0+nm.length+1) (p0+nm.length+1+c.x.length+1) ts
    have hsm:aQ eo (i6 c.x (p0+nm.length+1)::i6 (bM c.k) (p0+nm.length+1+c.x.length+1)::ts)=.ok ((c.x,c.k,((p0+nm.length+1:Nat):Int))::zs) [oZ [41] q1,aF q2]:=by
     rw[ek hp,j3]
     rfl
    refine hfin _ _ q2 (iL (t:=oZ [40] (p0+nm.length)) (u:=oZ [41] q1) (by simp [tk,oZ]) (by simp [cV,i6]) hsm (by simp [tk,oZ])) (by simp [jj,j2])
theorem jB {x:List UInt8} (h:ai x=true):1<=x.length/\x.length<=16:=by
 unfold ai at h
 simp only[decide_eq_true_eq] at h
 exact⟨List.length_pos_iff.2 h.1,h.2.2.2⟩
theorem rL {nm:List UInt8} {cs:List bd} (h:cr nm cs=0):1<=(ct nm cs).length/\(ct nm cs).length<=16384:=by
 obtain⟨h1,h2,h3,h4⟩:=eM h
 have hn:=jB h1
 have ht:∀ c∈cs,(eh c).length<=21:=by
  intro c hc
  have:=jB (h2 c hc).1
  unfold eh bM
  simp only[List.length_append,List.length_cons,List.length_nil]
  split<;>simp<;>omega
 have hj:∀ l:List (List UInt8),(∀ x∈l,x.length<=21)->(Lib.join l [44,32]).length<=23 * l.length:=by
  intro l hl
  cases l with
  | nil=>simp [Lib.join_nil]
  | cons x r =>
    rw[Lib.join_cons,List.length_append,Lib.joinTail_length]
    have h1:=hl x List.mem_cons_self
    have h2:Lib.lens r<=21 * r.length:=by
     have:∀ r:List (List UInt8),(∀ x∈r,x.length<=21)->Lib.lens r<=21 * r.length:=by
      intro r
      induction r with
      | nil=>intro _;simp [Lib.lens]
      | cons y r ih =>
        intro hr
        have h3:=ih fun z hz=>hr z (List.mem_cons_of_mem _ hz)
        have h4:=hr y List.mem_cons_self
        simp only[Lib.lens,List.map_cons,List.sum_cons,List.length_cons] at h3 ⊢
        omega
     exact this r fun z hz=>hl z (List.mem_cons_of_mem _ hz)
    simp only[List.length_cons,List.length_nil]
    omega
 have:=hj (cs.map eh) (by intro x hx;simp at hx;obtain⟨c,hc,rfl⟩:=hx;exact ht c hc)
 rw[List.length_map] at this
 unfold ct
 rw[if_pos h]
 simp only[List.length_append,List.length_cons,List.length_nil]
 omega
theorem Tryz.infoCl:(prog.info? 109).map (fun i=>(i.zero,i.size,i.bytes))=some (some (.agg #[.string ⟨#[]⟩,.int .i64 0]),2,24):=by kernel_rfl
theorem yx (d:Nat) (a b:bd) (w:World):(Op.equalIn (d+2) 109 (.agg a.cells.toArray) (.agg b.cells.toArray)).run prog w=.ok (decide (a=b)) w:=by
 have hf:(prog.fieldsOf 109).toList.map f3=[("Name",9,0),("Kind",107,1)]:=by kernel_rfl
 have p1:∀ w,(isAgg 107).run prog w=.ok false w:=fun _=>by kernel_rfl
 have p3:∀ w,(isAgg 9).run prog w=.ok false w:=fun _=>by kernel_rfl
 rw[run_equalIn_agg w (d+1) _ _ _ (by kernel_rfl) (by kernel_rfl),qK,hf]
 have e1:=fun (x y:Int) (w:World)=>run_equalIn_int (P:=prog) w d 107 .i64 .i64 x y underlying107
 have e3:=fun (x y:ByteArray) (w:World)=>run_equalIn_string (P:=prog) w d 9 x y underlying9
 obtain⟨x,k⟩:=a
 obtain⟨x',k'⟩:=b
 simp only[bd.cells,DQ,part,Sem.run_bind,Sem.run_ite,p1,p3,Result.andThen_ok]
 by_cases h1:x=x'<;>by_cases h2:k=k'<;>simp [h1,h2,e1,e3,bd.mk.injEq]
theorem CU (a b:bd) (w:World):(binOp .neq 109 (.agg a.cells.toArray) (.agg b.cells.toArray)).run prog w=.ok (.bool (!decide (a=b))) w:=by
 rw[run_neq_struct,yx 9998]
 rfl
theorem sL (w:World) (rel:ByteArray) (tv:Value) (ts:List bd) (h:aj w tv 2 (ts.map bd.cells)) (hn:ts.length<=5864062014634) :
 Calls prog 28 #[.agg #[.string rel,tv]] w fun e w'=>∃ v,e=.returned (.agg #[.string rel,v])/\w'.ownsRow w.heap.size 109 2 v ts.length (ts.map bd.cells).flatten/\Below w.heap.size w w':=by
 obtain⟨i0,hi0,hz0,hz1,hz2⟩:=info_parts Tryz.infoCl
 obtain⟨ad,cap,rfl,hnc,hcm⟩:=h.form
 simp only[List.length_map] at hnc ⊢
 unfold maxLen at hcm
 have HL:=Fx (jV ts)
 have HO:=Fx (Dt ts)
 have hlen:(ts.map bd.cells).length=ts.length:=by simp
 generalize ts.map bd.cells=xs at *
 generalize hN:ts.length=n at *
 rw[hlen] at h
 have HR:=Fx h
 have HX:=Fx hlen
 have HBX:=Fx ((af.new w 57 #[.string rel,.slice ad n cap]).alloc (.cells #[.string ⟨#[]⟩,.slice none 0 0] 57))
 have HBY:=Fx (cM w (.cells #[.string rel,.slice ad n cap] 57) 57 #[.string ⟨#[]⟩,.slice none 0 0])
 have HB0:=Fx (ae (ae (Below.refl w.heap.size w) (.cells #[.string rel,.slice ad n cap] 57)) (.cells #[.string ⟨#[]⟩,.slice none 0 0] 57))
 clear h hN hlen
 go_enter func28,ntmps28
 go_wp2_with (at_make;refine wpList_make_full _ rfl _ _ 55 rfl w.heap.size 109 i0 (.agg #[.string ⟨#[]⟩,.int .i64 0]) 2 underlying55 hi0 hz0 hz1 _ _ _ _ n rfl rfl rfl rfl ?b2 ?b3 ?b4 ?_)
 case b2=>rw[hz2];omega
 case b3=>unfold maxLen;omega
 case b4=>simp<;>omega
 intro w2 hown2 hgrow2
 have HOW2:=Fx hown2
 have hbw2:Below w.heap.size w w2:=HB0.out.grown hgrow2 (by simp<;>omega) (fun q hq=>by cases hq)
 have HBW2:=Fx hbw2
 have HR2:=Fx (HR.out.keep hbw2)
 have bx:=HBX.out.grown hgrow2 (by simp)
 have hby:=HBY.out.grown hgrow2 (by simp)
 have x0:=bx.cell 0
 have x1:=bx.cell 1
 simp only[FF] at x0 x1
 have hxl:=bx.lt
 have HBX2:=Fx bx
 have HBY2:=Fx hby
 clear hbw2 hown2 hgrow2 bx hby
 go_wp2_with (refine ci rfl _ _ _ _ rfl 109 2 underlying55 (by kernel_rfl) (w.heap.size+1+1) n _ rfl rfl _ w.heap.size HOW2.out xs HR2.out HX.out HL.out HO.out (by omega) ?_)
 intro w3 hown3 hmod3 hsz3
 have HOW3:=Fx hown3
 have hbw3:=aq.own HBW2.out hmod3 (by omega)
 have bx:=HBX2.out.mod hmod3 (by omega)
 have hby:=HBY2.out.mod hmod3 (by omega)
 have x0:=bx.cell 0
 simp only[List.getElem?_toArray,List.getElem?_cons_zero] at x0
 have hxl:=bx.lt
 have HBW3:=Fx hbw3
 have HBY3:=Fx hby
 clear hown3 hmod3 hsz3 bx hby hbw3
 go_wp2_with (refine ar rfl 57 _ _ rfl (w.heap.size+1) 57 _ _ rfl rfl HBY3.out (by kernel_rfl) rfl (by simp [Value.oneCell']) ?_)
 intro w4 hb4 hm4 hz4
 have r0:=hb4.cell 0
 have r1:=hb4.cell 1
 have HB4:=Fx (aq.own HBW3.out hm4 (by omega))
 have HO4:=Fx (hm4.ownsRow HOW3.out (by intro q hq;simp [Value.ownBlock] at hq;omega))
 simp only[FF] at r0 r1
 clear hb4 hm4 hz4
 go_wp2_with fail
 exact bodyPost_ret (v:=.agg #[.string rel,.slice (some ⟨w.heap.size+1+1,0,none⟩) n n]) (by simp [results,results28,go_sem, *]) rfl ⟨_,rfl,HO4.out,HB4.out⟩
theorem sy (w:World) (rel:ByteArray) (va vb:Value) (ts:List bd) (ha:aj w va 2 (ts.map bd.cells)) (hb:aj w vb 2 (ts.map bd.cells)) :
 Calls prog 24 #[.agg #[.string rel,va],.agg #[.string rel,vb]] w fun e w'=>e=.returned (.bool true)/\Below w.heap.size w w':=by
 obtain⟨aa,ac,rfl,hac,ham⟩:=ha.form
 obtain⟨ba,bc,rfl,hbc,hbm⟩:=hb.form
 have hneq:∀ (x:List UInt8) (k:Int) (w:World),(binOp .neq 109 (.agg #[.string ⟨x.toArray⟩,.int .i64 k]) (.agg #[.string ⟨x.toArray⟩,.int .i64 k])).run prog w=.ok (.bool false) w:=fun x k w=>by
  have:=CU ⟨x,k⟩ ⟨x,k⟩ w
  simpa [bd.cells] using this
 have hla:=ha.len
 unfold maxLen at ham hbm
 have HA:=Fx ha
 have HB:=Fx hb
 simp only[List.length_map] at hac hbc hla ⊢
 generalize hN:ts.length=n at *
 have HN:=Fx hN
 clear ha hb hN
 go_enter func24,ntmps24
 go_wp2_with fail
 go_loopw [5] (fun i wr=>∃ k:Nat,k<=n/\i=.int .i64 k/\Hid (af wr w.heap.size 57 #[.string rel,.slice aa n ac])/\Hid (af wr (w.heap.size+1) 57 #[.string rel,.slice ba n bc])/\Hid (Below w.heap.size w wr)) (fun i _=>n - (intOf i).toNat)
 case atStart=>exact⟨0,Fz,rfl,Fx ((af.new _ _ _).alloc _),Fx (cM _ _ _ _),Fx (ae (ae Fy _) _)⟩
 case round =>
  obtain⟨k,hk,rfl,XA,XB,BW⟩:=hrel
  have a1:=XA.out.cell 1
  have b1:=XB.out.cell 1
  simp only[FF] at a1 b1
  have hal:=XA.out.lt
  have hbl:=XB.out.lt
  by_cases hlt:k<n
  ·obtain⟨t,ht⟩:∃ t,ts[k]? = some t:=⟨ts[k]'(by rw[HN.out];exact hlt),FD (by rw[HN.out];exact hlt)⟩
   obtain⟨g1,o1,c1,hv1,_,_,hgl1,k1⟩:=(HA.out.keep BW.out).get (i:=k) (x:=t.cells) (by simp [ht])
   obtain⟨g2,o2,c2,hv2,_,_,hgl2,k2⟩:=(HB.out.keep BW.out).get (i:=k) (x:=t.cells) (by simp [ht])
   simp only[List.length_map,HN.out,Value.slice.injEq,true_and] at hv1 hv2
   obtain⟨rfl,rfl⟩:=hv1
   obtain⟨rfl,rfl⟩:=hv2
   have p0:=k1 0 _ rfl
   have p1:=k1 1 _ rfl
   have r0:=k2 0 _ rfl
   have r1:=k2 1 _ rfl
   simp only[Nat.add_zero] at p0 r0
   have hd:decide ((k:Int)<0)=false:=by simp
   have hd2:decide ((n:Int)<=(k:Int))=false:=by simp;omega
   clear k1 k2 ht
   go_wp2_with fail
   go_quiet (fail)
   go_wp2_with fail
   go_roundw
   case rel=>exact⟨k+1,by omega,by go_num,Fx (XA.out.drewN _),Fx (XB.out.drewN _),Fx (dC BW.out _)⟩
   case measure=>simp [intOf];omega
  ·obtain rfl:k=n:=by omega
   go_wp2_with fail
   go_ret
   exact⟨rfl,BW.out⟩
abbrev xX:List UInt8:=[105,110,116]
abbrev js:List UInt8:=[116,101,120,116]
def EO (s:LS):Int × LS:=if D6 1 js s=true then (2,(aG 1 js s).2) else (1,(aG 1 xX s).2)
def Ed (s:LS):jU × LS:=(((aG 1 [] s).1.x,(EO (aG 1 [] s).2).1,(aG 1 [] s).1.p),(EO (aG 1 [] s).2).2)
theorem DY:iA eo Ed:=by
 intro c he
 have h1:=iJ (k:=1) he (by decide)
 unfold Ed
 cases ho:tk 1 [] c with
 | bad a e =>
   rw[ho] at h1
   simp only at h1
   rw[tm ho,h1]
   rfl
 | ok t c1 =>
   rw[ho] at h1
   obtain⟨h1,he1⟩:=h1
   rw[h1]
   simp only
   obtain⟨u,r,rfl⟩:=he1.some
   by_cases hk:u.k=1
   ·by_cases ht:u.x=js
    ·have hu:tk 1 [xX,js] (u::r)=.ok u r:=by simp [tk,hk,ht]
     rw[mY ho hu]
     have hi:D6 1 js (.ok (u::r))=true:=by simp [D6,zA,ce,hk,ht]
     unfold EO
     rw[if_pos hi]
     refine⟨?_,he1.cons (by omega)⟩
     simp [aG,cF,ce,hk,ht]
    ·have hi:D6 1 js (.ok (u::r))=false:=by simp [D6,zA,ce,hk,ht]
     unfold EO
     rw[if_neg (by rw[hi];decide)]
     by_cases hn:u.x=xX
     ·have hu:tk 1 [xX,js] (u::r)=.ok u r:=by simp [tk,hk,hn]
      rw[mY ho hu]
      refine⟨?_,he1.cons (by omega)⟩
      simp [aG,cF,ce,hk,hn]
     ·have hu:tk 1 [xX,js] (u::r)=.bad u.p 80:=by simp [tk,hk,hn,ht]
      rw[na ho hu]
      simp [aG,cF,ce,hk,hn]
   ·have hi:D6 1 js (.ok (u::r))=false:=by simp [D6,zA,ce,hk]
    unfold EO
    rw[if_neg (by rw[hi];decide)]
    have hu:tk 1 [xX,js] (u::r)=.bad u.p 80:=by simp [tk,hk]
    rw[na ho hu]
    simp [aG,cF,ce,hk]
def Eg (l:List jU):Nat->Nat->LS->LS
 | 0,_,s=>s
 | m+1,k,s=>Eg l m (k+1) (match l[k]? with
   | some h=>if h.1∈(l.take k).map (·.1) then jl h.2.2 82 s else s
   | none=>s)
def wB (l:List jU) (s:LS):LS:=match l[5]? with
 | some c=>jl c.2.2 81 s
 | none=>s
def zk (s:LS) (r:aU):PR aU:=match s with
 | .bad a e=>.bad a e
 | .ok _=>.ok r []
def qm (l:List jU) (s:LS):LS:=Eg l l.length 0 (wB l s)
def r3 (nm:List UInt8) (l:List jU) (X:ak × LS):PR aU:=zk (qm l X.2) (kG nm l)
def r2 (nm:List UInt8) (l:List jU) (X:ak × LS):PR aU:=r3 nm l (aG 0 [] X.2)
def r1 (nm:List UInt8) (G:LS × List jU):PR aU:=r2 nm G.2 (aG 3 [41] G.1)
def r0 (nm:List UInt8) (X:ak × LS):PR aU:=r1 nm (dJ Ed (li X.2+1) X.2 [])
def rq (X:ak × LS):PR aU:=r0 X.1.x (aG 3 [40] X.2)
def AR (s:LS):PR aU:=rq (aG 1 [] s)
theorem jX (l:List jU) (a e:Int):∀ (m k:Nat),Eg l m k (.bad a e)=.bad a e
 | 0,_=>rfl
 | m+1,k=>by
   unfold Eg
   cases l[k]? with
   | none=>exact jX l a e m (k+1)
   | some h =>
     simp only
     split<;>exact jX l a e m (k+1)
theorem yp (l:List jU) (a e:Int):wB l (.bad a e)=.bad a e:=by
 unfold wB
 cases l[5]? <;> rfl
theorem nH (l:List jU) (a e:Int):qm l (.bad a e)=.bad a e:=by
 unfold qm
 rw[yp,jX]
theorem D5 (nm:List UInt8) (a e:Int) (l:List jU):r1 nm (.bad a e,l)=.bad a e:=by
 show zk (qm l (.bad a e)) _=_
 rw[nH]
 rfl
theorem Cc (nm:List UInt8) (t:ak) (a e:Int):r0 nm (t,.bad a e)=.bad a e:=by
 unfold r0
 rw[dI]
 exact D5 nm a e []
theorem tf (a e:Int):AR (.bad a e)=.bad a e:=Cc fY.x fY a e
theorem wK (l:List jU) (c:List ak):∀ (m k:Nat),k+m=l.length ->
 Eg l m k (.ok c)=.ok c/\dF (((l.map jj).take k).map (·.x)) ((l.map jj).drop k) k = -1∨∃ (j:Nat) (h:jU),l[j]? = some h/\dF (((l.map jj).take k).map (·.x)) ((l.map jj).drop k) k=j/\Eg l m k (.ok c)=.bad h.2.2 82
 | 0,k,hk=>by
   have:(l.map jj).drop k=[]:=List.drop_of_length_le (by simp;omega)
   rw[this]
   exact .inl ⟨rfl,rfl⟩
 | m+1,k,hk=>by
   obtain⟨h,hh⟩:∃ h,l[k]? = some h:=⟨l[k]'(by omega),FD (by omega)⟩
   have hx:(l.map jj)[k]? = some (jj h):=by simp [hh]
   have hn:((l.map jj).take k).map (·.x)=(l.take k).map (·.1):=by
    rw[<-List.map_take,List.map_map]
    rfl
   unfold Eg
   rw[hh]
   simp only
   by_cases hm:h.1∈(l.take k).map (·.1)
   ·rw[pD hx (by rw[hn];exact hm),if_pos hm]
    refine .inr ⟨k,h,hh,rfl,?_⟩
    simp only[jl]
    exact jX l _ _ m (k+1)
   ·rw[n9 hx (by rw[hn];exact hm),if_neg hm]
    exact wK l c m (k+1) (by omega)
theorem Dk (nm:List UInt8) (l:List jU) (c:List ak):zk (qm l (.ok c)) (kG nm l)=qG nm l:=by
 unfold qm wB
 cases h5:l[5]? with
 | some a =>
   rw[kO h5]
   simp only[jl]
   rw[jX]
   rfl
 | none =>
   simp only
   rcases wK l c l.length 0 (by omega) with ⟨h1,h2⟩ | ⟨j,h,h1,h2,h3⟩
   ·rw[h1,mI h5 h2]
    rfl
   ·rw[h3,jz h5 h2 h1]
    rfl
theorem qO {ts:List ak} (h:bD ts):AR (.ok ts)=jG ts:=by
 have h1:=iJ (k:=1) h (by decide)
 unfold AR rq
 cases ho:tk 1 [] ts with
 | bad a e =>
   rw[ho] at h1
   simp only at h1
   rw[lp ho,h1]
   exact Cc _ _ a e
 | ok t c1 =>
   rw[ho] at h1
   obtain⟨h1,he1⟩:=h1
   rw[h1]
   have h2:=nh DY kx c1 he1
   simp only
   cases h3:aJ eo c1 with
   | bad a e =>
     rw[h3] at h2
     rw[lk ho h3]
     simp only at h2
     unfold fI at h2
     simp only at h2
     show zk (qm _ (aG 0 [] (aG 3 [41] (dJ Ed (li (aG 3 [40] (.ok c1)).2+1) (aG 3 [40] (.ok c1)).2 []).1).2).2) _=_
     rw[h2]
     show zk (qm _ (.bad a e)) _=_
     rw[nH]
     rfl
   | ok l c2 =>
     rw[h3] at h2
     obtain⟨h2,he2⟩:=h2
     unfold fI at h2
     simp only[Prod.mk.injEq] at h2
     obtain⟨h2a,h2b⟩:=h2
     show zk (qm (dJ Ed (li (aG 3 [40] (.ok c1)).2+1) (aG 3 [40] (.ok c1)).2 []).2 (aG 0 [] (aG 3 [41] (dJ Ed (li (aG 3 [40] (.ok c1)).2+1) (aG 3 [40] (.ok c1)).2 []).1).2).2) (kG t.x (dJ Ed (li (aG 3 [40] (.ok c1)).2+1) (aG 3 [40] (.ok c1)).2 []).2)=_
     rw[h2a,h2b]
     obtain⟨u,r,rfl⟩:=he2.some
     by_cases ht:u.k=0
     ·have e1:tk 0 [] (u::r)=.ok u (u::r):=by simp [tk,ht]
      have e2:(aG 0 [] (.ok (u::r))).2=.ok r:=by simp [aG,cF,ce,ht]
      rw[mB ho h3 e1,e2]
      exact Dk t.x l r
     ·have e1:tk 0 [] (u::r)=.bad u.p 80:=by simp [tk,ht]
      have e2:(aG 0 [] (.ok (u::r))).2=.bad u.p 80:=by simp [aG,cF,ce,ht]
      rw[kX ho h3 e1,e2,nH]
      rfl
theorem Tryz.infoTx:(prog.info? 9).map (fun i=>(i.zero,i.size,i.bytes))=some (some (.string ⟨#[]⟩),1,16):=by kernel_rfl
def iD (cs:List bd) (k:Nat):List (List UInt8):=(cs.take k).map eh++(cs.drop k).map fun _=>[]
theorem Ai (cs:List bd) (k:Nat):(iD cs k).length=cs.length:=by
 unfold iD
 simp
 omega
theorem zQ {cs:List bd} {k:Nat} {c:bd} (h:cs[k]? = some c):(iD cs k).set k (eh c)=iD cs (k+1):=by
 have hk:=(FE h).1
 have hl:((cs.take k).map eh).length=k:=by rw[List.length_map,List.length_take];omega
 have e1:(cs.take (k+1)).map eh=(cs.take k).map eh++[eh c]:=by
  rw[List.take_add_one,h]
  simp
 have e2:cs.drop k=cs[k]::cs.drop (k+1):=List.drop_eq_getElem_cons hk
 unfold iD
 rw[e1,e2,List.map_cons,List.set_append_right _ _ (by omega),hl,Nat.sub_self,List.set_cons_zero,List.append_assoc]
 rfl
theorem wU:∀ l:List bd,List.replicate l.length [Value.string ⟨#[]⟩]=(l.map fun _=>([]:List UInt8)).map bO
 | []=>rfl
 | _::l=>by
   simp only[List.length_cons,List.replicate_succ,List.map_cons]
   rw[wU l]
   rfl
theorem xz (cs:List bd):(madeCells #[.string ⟨#[]⟩] cs.length).toList=((iD cs 0).map bO).flatten:=by
 have h:=px [.string ⟨#[]⟩] cs.length (by simp)
 rw[wU cs,show cs.length * ([Value.string ⟨#[]⟩]:List Value).length=cs.length from Nat.mul_one _] at h
 unfold iD
 simp only[List.take_zero,List.map_nil,List.drop_zero,List.nil_append]
 exact h
theorem Bn (cs:List bd):iD cs cs.length=cs.map eh:=by
 unfold iD
 simp
theorem DA (l:List (List UInt8)):∀ x∈l.map bO,x.length=1:=by
 intro x hx
 simp at hx
 obtain⟨t,_,rfl⟩:=hx
 rfl
theorem sw {w:World} {g k n cap base:Nat} {l:List (List UInt8)} {s:List UInt8} (hown:w.ownsRow base 9 1 (.slice (some ⟨g,0,none⟩) n cap) n (l.map bO).flatten) (hn:l.length=n) (hk:k<n) :
 (w.setCell ⟨g,k,none⟩ (.string ⟨s.toArray⟩)).ownsRow base 9 1 (.slice (some ⟨g,0,none⟩) n cap) n ((l.set k s).map bO).flatten/\aq (fun j=>j=g) w (w.setCell ⟨g,k,none⟩ (.string ⟨s.toArray⟩)):=by
 have h:=gC (cells:=[.string ⟨s.toArray⟩]) hown (DA l) (by rw[List.length_map,hn]) hk (by intro v hv;simp at hv;subst hv;rfl)
 have e:w.setCells g (k * ([Value.string ⟨s.toArray⟩]:List Value).length) [.string ⟨s.toArray⟩]=w.setCell ⟨g,k,none⟩ (.string ⟨s.toArray⟩):=by
  simp [World.setCells]
 rw[e] at h
 rw[List.map_set]
 exact⟨h.1,h.2.1⟩
theorem aq.ownZ {b g:Nat} {w0 w w':World} (hz:w0.heap.size=g) (h:Below g w0 w) (hm:aq (fun k=>k=b) w w') (hb:g<=b):Below g w0 w':=by
 subst hz
 exact aq.own h hm hb
theorem af.belowZ {g b:Nat} {w0 w:World} {t:TypeId} {cs:Array Value} (hz:w0.heap.size=g) (h:af w0 b t cs) (hb:Below g w0 w):af w b t cs:=by
 subst hz
 exact h.below hb h.lt
theorem Below.allocZ {g:Nat} {w0 w:World} (hz:w0.heap.size=g) (h:Below g w0 w) (o:Obj):Below g w0 (w.alloc o):=by
 subst hz
 exact ae h o
theorem vO {w:World} {g n cap base:Nat} {l:List (List UInt8)} (hown:w.ownsRow base 9 1 (.slice (some ⟨g,0,none⟩) n cap) n (l.map bO).flatten) (hn:l.length=n) (j:Nat) (x:ByteArray) (hx:(l.map fun s=>(⟨s.toArray⟩:ByteArray))[j]? = some x):w.cell? ⟨g,0+j,none⟩=some (.string x):=by
 rw[List.getElem?_map] at hx
 cases hs:l[j]? with
 | none=>rw[hs] at hx;simp at hx
 | some s =>
   rw[hs] at hx
   simp at hx
   subst hx
   have hj:=(FE hs).1
   have h1:=hown.cellAt j (by omega)
   have h2:=ef (DA l) (i:=j) (j:=0) (x:=bO s) (u:=.string ⟨s.toArray⟩) (by simp [hs]) rfl
   simp only[Nat.mul_one,Nat.add_zero] at h2
   rw[Nat.zero_add]
   exact h1.trans h2
theorem nO (l:List (List UInt8)):(l.map fun s=>(⟨s.toArray⟩:ByteArray)).map (·.data.toList)=l:=by
 rw[List.map_map]
 conv=>rhs;rw[<-List.map_id l]
 apply List.map_congr_left
 intro a _
 simp
theorem vE (w:World) (nm:ByteArray) (v:Value) (cs:List bd) (h:aO w v cs) (hk:cr nm.data.toList cs=0) :
 Calls prog 68 #[.agg #[.string nm,v]] w fun e w'=>e=.returned (.string ⟨(ct nm.data.toList cs).toArray⟩)/\Below w.heap.size w w':=by
 obtain⟨i0,hi0,hz0,hz1,hz2⟩:=info_parts Tryz.infoTx
 obtain⟨k1,k2,k3,k4⟩:=eM hk
 have hnl:=jB k1
 have hsh:=(rL hk).2
 have hb0:Below w.heap.size w (w.alloc (.cells #[.string nm,v] 57)):=ae Fy _
 have hbx:=af.new w 57 #[.string nm,v]
 have hch:=lu _ nm v cs (h.keep hb0) (by have:nm.size=nm.data.toList.length:=rfl;omega) (fun c hc=>by have:=jB (k2 c hc).1;omega)
 rw[hk] at hch
 obtain⟨ad,cap,rfl,hnc,hcm⟩:=h.form
 have hnz:nm.size<=16:=hnl.2
 have hcx:∀ c∈cs,c.x.length<=16:=fun c hc=>(jB (k2 c hc).1).2
 have hjn:(Lib.join (iD cs cs.length) [44,32]).length<=16384/\ct nm.data.toList cs=nm.data.toList++[40]++Lib.join (iD cs cs.length) [44,32]++[41]:=by
  have e:ct nm.data.toList cs=nm.data.toList++[40]++Lib.join (cs.map eh) [44,32]++[41]:=by
   unfold ct
   rw[if_pos hk]
  rw[Bn]
  rw[e] at hsh
  simp only[List.length_append] at hsh
  exact⟨by omega,e⟩
 obtain⟨hjl,hjs⟩:=hjn
 rw[hjs]
 have HR:=Fx h
 have HJL:=Fx hjl
 have HC:=Fx hch
 have HB0:=Fx hb0
 have HBX:=Fx hbx
 have HCX:=Fx hcx
 have hrl:=Ai cs
 have hr0:=xz cs
 have hrs:=fun k c=>zQ (cs:=cs) (k:=k) (c:=c)
 have HRS:=Fx hrs
 clear h hch hb0 hbx k1 k2 k4 hk hsh hnl hjl hjs hcx hrs
 generalize hN:cs.length=n at *
 have HN:=Fx hN
 have HRL:=Fx hrl
 have HR0:=Fx hr0
 clear hN hrl hr0
 go_enter func68,ntmps68
 go_wp2_with fail
 refine HC.out.mono ?_
 rintro e w2 ⟨rfl,hb2⟩
 have HB2:=Fx (HB0.out.trans (hb2.mono (by simp)))
 have HBX2:=Fx (HBX.out.below hb2 (by simp))
 have x1:=HBX2.out.cell 1
 simp only[FF] at x1
 have hxl:=HBX2.out.lt
 clear hb2 HC
 go_wp2_with (at_make;refine wpList_make_full _ rfl _ _ 28 rfl w.heap.size 9 i0 (.string ⟨#[]⟩) 1 underlying28 hi0 hz0 hz1 _ _ _ _ n rfl rfl rfl rfl ?b2 ?b3 ?b4 ?_)
 case b2=>rw[hz2];omega
 case b3=>unfold maxLen;omega
 case b4=>exact HB2.out.size
 intro w5 hown5 hgrow5
 rw[HR0.out] at hown5
 have HO5:=Fx hown5
 have hb5:Below w2.heap.size w2 w5:=Below.grown Fy hgrow5 FA (fun q hq=>by cases hq)
 have HB5:=Fx hb5
 have HBX5:=Fx (HBX2.out.below hb5 HBX2.out.lt)
 have x1:=HBX5.out.cell 1
 simp only[FF] at x1
 have hxl:=HBX5.out.lt
 have hw2:=HB2.out.size
 have HW2:=Fx hw2
 generalize hgz:w2.heap.size=g at *
 have HGZ:=Fx hgz
 clear hown5 hgrow5 hgz hb5
 go_wp2_with fail
 go_loopw [16] (fun i wr=>∃ k:Nat,k<=n/\i=.int .i64 k/\Hid (wr.ownsRow w.heap.size 9 1 (.slice (some ⟨g,0,none⟩) n n) n ((iD cs k).map bO).flatten)/\Hid (Below g w2 wr)) (fun i _=>n - (intOf i).toNat)
 case atStart=>exact⟨0,Fz,rfl,HO5,HB5⟩
 case round =>
  obtain⟨k,hk,rfl,OW,BG⟩:=hrel
  have hbw:Below w.heap.size w wr:=HB2.out.trans (BG.out.mono HW2.out)
  have BW:=Fx hbw
  by_cases hkn:k<n
  ·obtain⟨c,hc⟩:∃ c,cs[k]? = some c:=⟨cs[k]'(by rw[HN.out];exact hkn),FD (by rw[HN.out];exact hkn)⟩
   obtain⟨tb,tfo,tcap,htv,_,_,htbl,t0,t1⟩:=(aO.keep HR.out BW.out).get hc
   simp only[HN.out,Value.slice.injEq,true_and] at htv
   obtain⟨rfl,rfl⟩:=htv
   have hcx:=HCX.out c (FC hc)
   have hset:=HRS.out k c hc
   have HSET:=Fx hset
   obtain⟨⟨u,hu⟩,hfz,hgl⟩:=en OW.out hkn (j:=0) (by decide)
   simp only[Nat.mul_one,Nat.add_zero] at hu hfz
   have hkl:(bM c.k).length<=4:=by
    unfold bM
    split<;>simp
   have hcT:eh c=c.x++[32]++bM c.k:=rfl
   have HK:=Fx (fun W=>qw c.k W)
   rw[hcT] at HSET
   generalize bM c.k=kn at *
   have hl1:¬ 9223372036854775807<c.x.length+1:=by omega
   have hl2:¬ 9223372036854775807<c.x.length+1+kn.length:=by omega
   have hcc:(ByteArray.mk c.x.toArray++ByteArray.mk #[32])++ByteArray.mk kn.toArray=⟨(c.x++[32]++kn).toArray⟩:=by
    apply ByteArray.ext
    simp
   have HCC:=Fx hcc
   have hdk:decide ((k:Int)<0)=false:=by simp
   have hdn:decide ((n:Int)<=(k:Int))=false:=by simp;omega
   have hgw:g≠wr.heap.size:=by omega
   clear hc hset hcT hcc
   go_wp2_with fail
   go_region_law (go_simp;go_at_call 148;refine (HK.out _).mono ?_;rintro e w6 ⟨rfl,rfl⟩)
   all_goals
    go_wp2_with fail
    go_roundw
    case rel =>
     have h2:=sw (s:=c.x++[32]++kn) OW.out (HRL.out k) hkn
     rw[HSET.out] at h2
     refine⟨k+1,by omega,by go_num,Fx ?_,Fx ?_⟩
     ·rw[HCC.out]
      exact (MT.ofBelow (B:=0) (Ts:=[]) (ay (ae Fy _))).ownsRow h2.1 (by simp)
     ·rw[HCC.out]
      exact ay (Below.allocZ HGZ.out (aq.ownZ HGZ.out BG.out h2.2 FA) _)
    case measure=>simp [intOf];omega
  ·obtain rfl:k=n:=by omega
   have hxb:=af.belowZ HGZ.out HBX2.out BG.out
   have x0:=hxb.cell 0
   have x1:=hxb.cell 1
   simp only[FF] at x0 x1
   have hxl:=hxb.lt
   have hgl:=(OW.out.lt g rfl).2
   have ho:=(MT.ofBelow (B:=0) (Ts:=[]) (ay (Below.refl wr.heap.size wr))).ownsRow OW.out (by simp)
   have hj:=Tryz.strings_Join g 0 k ((iD cs k).map fun s=>(⟨s.toArray⟩:ByteArray)) ⟨#[44,32]⟩ wr.drew (vO ho (HRL.out k)) (by simpa using hgl) (by rw[List.length_map,HRL.out k];omega) (by rw[List.length_map,HRL.out k];exact FA) (by rw[nO];exact Nat.le_trans HJL.out (by decide))
   rw[nO,List.length_map,HRL.out k] at hj
   have hjl:(Lib.join (iD cs k) [44,32]).length<=16384:=HJL.out
   have hj':Calls prog 149 #[.slice (some ⟨g,0,none⟩) k k,.string ⟨#[44,32]⟩] wr.drew fun e w'=>e=.returned (.string ⟨(Lib.join (iD cs k) [44,32]).toArray⟩)/\Below wr.drew.heap.size wr.drew w':=hj
   obtain⟨J,hJ⟩:∃ J,J=Lib.join (iD cs k) [44,32]:=⟨_,rfl⟩
   rw[<-hJ] at hj' hjl
   have HJ:=Fx hj'
   have hl1:¬ 9223372036854775807<nm.size+1:=by omega
   have hl2:¬ 9223372036854775807<nm.size+1+J.length:=by omega
   have hl3:¬ 9223372036854775807<nm.size+1+J.length+1:=by omega
   have hcc:nm++ByteArray.mk #[40]++ByteArray.mk J.toArray++ByteArray.mk #[41]=⟨(nm.data.toList++[40]++Lib.join (iD cs k) [44,32]++[41]).toArray⟩:=by
    rw[<-hJ]
    apply ByteArray.ext
    simp
   have HCC:=Fx hcc
   have HBB:=Fx (ay BW.out)
   clear hxb ho hj hj' hcc hJ
   go_wp2_with fail
   go_region_law (go_simp;go_at_call 149;refine HJ.out.mono ?_;rintro e w6 ⟨rfl,hb6⟩;have y0:=(hb6.cell (p:=⟨w.heap.size,0,none⟩) hxl).trans (show wr.drew.cell? ⟨w.heap.size,0,none⟩=_ from x0))
   all_goals
    have HB6:=Fx (HBB.out.trans (hb6.mono HBB.out.size))
    clear hb6
    go_wp2_with fail
    go_ret
    exact⟨(congrArg (fun x=>Ending.returned (Value.string x)) HCC.out),HB6.out⟩
theorem Bw (s:ByteArray) (w:World) (hs:s.size<=281474976710656) (hg:bY w) (he:(aN s.data.toList).e=0) :
 Calls prog 59 #[.string s] w (kz w (jG (aN s.data.toList).ts)) :=
 Ad s w _ fun W hb=>iM s W hs (hg.below hb) he
theorem xn (s:ByteArray) (w:World) (hs:s.size<=281474976710656) (hg:bY w) (he:(aN s.data.toList).e≠0) :
 Calls prog 59 #[.string s] w (kz w (.bad (aN s.data.toList).at_ (aN s.data.toList).e)) :=
 CO s w _ _ fun W hb=>mP s W hs (hg.below hb) he
def DJ (N:Nat) (t:ak):Prop:=(t.k=1->ai t.x=true)/\0<=t.p/\t.p<=N
def rU (N:Nat) (c:List ak):Prop:=(∀ t∈c,DJ N t)/\bD c
theorem rU.next {N:Nat} {t:ak} {r:List ak} (h:rU N (t::r)) (hk:t.k≠0):rU N r:=⟨fun u hu=>h.1 u (List.mem_cons_of_mem _ hu),h.2.cons hk⟩
section
variable {α : Type} {N : Nat}
def AN (N:Nat) (Q:α->Prop):PR α->Prop
 | .bad a e=>0<=a/\a<=N/\e≠0
 | .ok x c=>Q x/\rU N c
def sh (N:Nat) (P:List ak->PR α) (Q:α->Prop):Prop:=∀ c,rU N c->AN N Q (P c)
theorem iV (N:Nat) (k:Int) (xs:List (List UInt8)):sh N (tk k xs) (fun t=>DJ N t/\t.k=k):=by
 intro c h
 cases c with
 | nil=>exact h.2.elim
 | cons t r =>
   have ht:=h.1 t List.mem_cons_self
   show AN N _ (if t.k=k/\(xs=[]∨t.x∈xs) then .ok t (if k=0 then t::r else r) else .bad t.p 80)
   split
   ·rename_i hc
    refine⟨⟨ht,hc.1⟩,?_⟩
    split
    ·exact h
    ·rename_i hk
     exact h.next (by rw[hc.1];exact hk)
   ·exact⟨ht.2.1,ht.2.2,by decide⟩
theorem pm {P:List ak->PR α} {Q:α->Prop} (hP:sh N P Q):∀ f,sh N (bq P f) (fun xs=>∀ x∈xs,Q x)
 | 0,c,h=>⟨by simp,h⟩
 | f+1,c,h=>by
   unfold bq
   split
   ·rename_i him
    have hd:rU N (c.drop 1):=by
     obtain⟨t,r,rfl⟩:=h.2.some
     have hh:t.k=3/\t.x=[44]:=by simpa [cV] using him
     exact h.next (by rw[hh.1];decide)
    have h1:=hP (c.drop 1) hd
    cases ho:P (c.drop 1) with
    | bad a e=>rw[ho] at h1;exact h1
    | ok x c1 =>
      rw[ho] at h1
      have h2:=pm hP f c1 h1.2
      simp only
      cases hm:bq P f c1 with
      | bad a e=>rw[hm] at h2;exact h2
      | ok xs c2 =>
        rw[hm] at h2
        refine⟨fun y hy=>?_,h2.2⟩
        rcases List.mem_cons.1 hy with rfl | hy
        ·exact h1.1
        ·exact h2.1 y hy
   ·exact⟨by simp,h⟩
theorem xT {P:List ak->PR α} {Q:α->Prop} (hP:sh N P Q):sh N (aQ P) (fun xs=>∀ x∈xs,Q x):=by
 intro c h
 have h1:=hP c h
 unfold aQ
 cases ho:P c with
 | bad a e=>rw[ho] at h1;exact h1
 | ok x c1 =>
   rw[ho] at h1
   have h2:=pm hP c1.length c1 h1.2
   simp only
   cases hm:bq P c1.length c1 with
   | bad a e=>rw[hm] at h2;exact h2
   | ok xs c2 =>
     rw[hm] at h2
     refine⟨fun y hy=>?_,h2.2⟩
     rcases List.mem_cons.1 hy with rfl | hy
     ·exact h1.1
     ·exact h2.1 y hy
theorem yj {P:List ak->PR α} {Q:α->Prop} (hP:sh N P Q):sh N (aJ P) (fun xs=>∀ x∈xs,Q x):=by
 intro c h
 have h1:=iV N 3 [[40]] c h
 unfold aJ
 cases ho:tk 3 [[40]] c with
 | bad a e=>rw[ho] at h1;exact h1
 | ok t c1 =>
   rw[ho] at h1
   simp only
   have h2:AN N (fun xs=>∀ x∈xs,Q x) (if cV [41] c1=true then (.ok [] c1:PR (List α)) else aQ P c1):=by
    split
    ·exact⟨by simp,h1.2⟩
    ·exact xT hP c1 h1.2
   cases hm:(if cV [41] c1=true then (.ok [] c1:PR (List α)) else aQ P c1) with
   | bad a e=>rw[hm] at h2;exact h2
   | ok xs c2 =>
     rw[hm] at h2
     have h3:=iV N 3 [[41]] c2 h2.2
     simp only
     cases hk:tk 3 [[41]] c2 with
     | bad a e=>rw[hk] at h3;exact h3
     | ok u c3=>rw[hk] at h3;exact⟨h2.1,h3.2⟩
end
theorem Bb (N:Nat):sh N eo (fun x=>ai x.1=true/\jM (jj x)=false/\0<=x.2.2/\x.2.2<=N):=by
 intro c h
 have h1:=iV N 1 [] c h
 unfold eo
 cases ho:tk 1 [] c with
 | bad a e=>rw[ho] at h1;exact h1
 | ok t c1 =>
   rw[ho] at h1
   have h2:=iV N 1 [[105,110,116],[116,101,120,116]] c1 h1.2
   simp only
   cases hm:tk 1 [[105,110,116],[116,101,120,116]] c1 with
   | bad a e=>rw[hm] at h2;exact h2
   | ok u c2 =>
     rw[hm] at h2
     refine⟨⟨h1.1.1.1 h1.1.2,?_,h1.1.1.2⟩,h2.2⟩
     simp only[jj,jM]
     split<;>decide
theorem yt {N:Nat} {ts:List ak} (h:rU N ts):match jG ts with
 | .bad a e=>0<=a/\a<=N/\e≠0
 | .ok r _=>cr r.name r.cols=0:=by
 have h1:=iV N 1 [] ts h
 cases ho:tk 1 [] ts with
 | bad a e=>rw[ho] at h1;rw[lp ho];exact h1
 | ok t c1 =>
   rw[ho] at h1
   have h2:=yj (Bb N) c1 h1.2
   cases hl:aJ eo c1 with
   | bad a e=>rw[hl] at h2;rw[lk ho hl];exact h2
   | ok l c2 =>
     rw[hl] at h2
     have h3:=iV N 0 [] c2 h2.2
     cases hk:tk 0 [] c2 with
     | bad a e=>rw[hk] at h3;rw[kX ho hl hk];exact h3
     | ok u c3 =>
       rw[mB ho hl hk]
       cases h5:l[5]? with
       | some c =>
         rw[kO h5]
         have h8:=(h2.1 c (FC h5)).2.2
         exact⟨h8.1,h8.2,by decide⟩
       | none =>
         rcases fK (l.map jj) [] 0 with h6 | ⟨j,h6,_,h7⟩
         ·rw[mI h5 h6]
          refine CQ (h1.1.1.1 h1.1.2) ?_ ?_ h6
          ·intro c hc
           obtain⟨z,hz,rfl⟩:=List.mem_map.1 hc
           have:=h2.1 z hz
           exact⟨this.1,this.2.1⟩
          ·simp only[kG,List.length_map]
           have:=List.getElem?_eq_none_iff.1 h5
           exact this
         ·obtain⟨c,hc⟩:∃ c,l[j]? = some c:=⟨l[j]'(by simpa using h7),FD (by simpa using h7)⟩
          rw[jz h5 h6 hc]
          have h8:=(h2.1 c (FC hc)).2.2
          exact⟨h8.1,h8.2,by decide⟩
theorem Bv {r:List UInt8} (hl:aR (bt r 0)=true) (hr:r≠[]) (h16:ap r<=16):ai (r.take (ap r))=true:=by
 have hp:=ik hr hl
 have hle:=fC r
 have e:r.take (ap r)=r.takeWhile fun c=>aR c.toNat || au c.toNat:=by
  have h1:=List.takeWhile_prefix (fun c:UInt8=>aR c.toNat || au c.toNat) (l:=r)
  exact (List.prefix_iff_eq_take.1 h1).symm
 have hall:∀ c∈r.take (ap r),(aR c.toNat || au c.toNat)=true:=by
  intro c hc
  rw[e] at hc
  exact List.all_eq_true.1 (List.all_takeWhile (p:=fun c:UInt8=>aR c.toNat || au c.toNat) (l:=r)) c hc
 have hlen:(r.take (ap r)).length=ap r:=by rw[List.length_take];omega
 have hrun:ap (r.take (ap r))=(r.take (ap r)).length:=by
  have:=List.takeWhile_append_of_pos (p:=fun c:UInt8=>aR c.toNat || au c.toNat) (l₁:=r.take (ap r)) (l₂:=[]) (by simpa using hall)
  rw[List.append_nil] at this
  show (List.takeWhile _ (r.take (ap r))).length=_
  rw[this]
  simp
 unfold ai
 simp only[decide_eq_true_eq]
 refine⟨?_,?_,hrun,by omega⟩
 ·intro e2
  rw[e2] at hlen
  simp at hlen
  omega
 ·have:=eA (l:=r) (y:=[]) (n:=ap r) (j:=0) (by omega) hle
  rw[List.append_nil] at this
  rw[this]
  exact hl
theorem Cx:∀ (m:Nat) (r:List UInt8) (p:Nat),r.length<=m->(LX r p).e=0->∀ t∈(LX r p).ts,(t.k=1->ai t.x=true)/\(p:Int)<=t.p/\t.p<=((p+r.length:Nat):Int):=by
 intro m
 have hend:∀ (r:List UInt8) (p:Nat),r=[]∨bt r 0=35->∀ t∈(LX r p).ts,(t.k=1->ai t.x=true)/\(p:Int)<=t.p/\t.p<=((p+r.length:Nat):Int):=by
  intro r p h t ht
  rw[eG h] at ht
  simp only[List.mem_singleton] at ht
  subst ht
  exact⟨fun h=>by simp [aF] at h,by simp only[aF];omega,by simp [aF]⟩
 induction m with
 | zero =>
   intro r p h _
   exact hend r p (.inl (List.length_eq_zero_iff.1 (by omega)))
 | succ m ih =>
   intro r p h
   by_cases h0:r=[]∨bt r 0=35
   ·exact fun _=>hend r p h0
   ·have hr:r≠[]:=fun e=>h0 (.inl e)
    have hl:=List.length_pos_iff.2 hr
    by_cases hb:fZ (bt r 0)=true
    ·rw[dz h0 hb]
     intro he t ht
     have:=ih _ _ (by rw[List.length_drop];omega) he t ht
     rw[List.length_drop] at this
     exact⟨this.1,by omega,by omega⟩
    ·have hb':fZ (bt r 0)=false:=by simpa using hb
     by_cases he:(aA r p).2=0
     ·obtain⟨l1,_,l3⟩:=dB he hr
      obtain⟨_,k2⟩:=j9 he
      rw[gE h0 hb' he]
      split
      ·rename_i h9
       intro h8
       exact absurd h8 h9
      ·rename_i h9
       intro _ t ht
       simp only[List.mem_cons] at ht
       rcases ht with rfl | ht
       ·refine⟨fun hk=>?_,by rw[k2];exact Int.le_refl _,by rw[k2];omega⟩
        obtain⟨a1,a2,a3⟩:=ud he hk
        rw[a3]
        exact Bv a1 hr a2
       ·have:=ih (r.drop (aA r p).1.x.length) (p+(aA r p).1.x.length) (by rw[List.length_drop];omega) (by simpa using h9) t ht
        rw[List.length_drop] at this
        exact⟨this.1,by omega,by omega⟩
     ·rw[iC h0 hb' he]
      exact fun h=>absurd h he
theorem zS {l:List UInt8} (h:(aN l).e=0) (he:bD (aN l).ts):rU l.length (aN l).ts:=by
 by_cases hl:16384<l.length
 ·rw[gy hl] at h
  exact absurd h (by decide)
 ·rw[cR (by omega)] at h ⊢
  rw[cR (by omega)] at he
  refine⟨fun t ht=>?_,he⟩
  have:=Cx _ l 0 FA h t ht
  exact⟨this.1,by have:=this.2.1;omega,by have:=this.2.2;omega⟩
theorem i7 (l:List UInt8) (h:(aN l).e≠0):0<=(aN l).at_/\(aN l).at_<=l.length:=by
 by_cases hl:16384<l.length
 ·rw[gy hl]
  exact⟨by simp,by simp⟩
 ·rw[cR (by omega)] at h ⊢
  obtain⟨n,ts,h1,h2,_⟩:=tQ _ l 0 FA h
  rw[h1]
  exact⟨by omega,by omega⟩
