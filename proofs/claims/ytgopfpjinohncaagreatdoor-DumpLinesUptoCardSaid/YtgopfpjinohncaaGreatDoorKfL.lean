/- A declaration's text is cut into tokens, and read as the declaration: plainly. osierref08.Copy, Same over the same, walked. osierref08.Check, Show, walked. schema.Show, walked. osierref08.Show, walked. -/
import Derived.Test.YtgopfpjinohncaaGreatDoorKaL
import Derived.Test.YtgopfpjinohncaaGreatDoorGaL
import Derived.Test.YtgopfpjinohncaaGreatDoorLcL
import Derived.Test.YtgopfpjinohncaaGreatDoorGmL
import Derived.Test.YtgopfpjinohncaaGreatDoorGnL
import Derived.BigQuiet
import Derived.KernelRfl
import Derived.Laws.OwnMore
import Derived.Deep.RegionLaw
import Derived.Deep.QuietTactic
import Derived.OwnWalk
namespace Go.Proofs.YtgopfpjinohncaaGreatDoor
open Go.RowKit
set_option linter.unusedVariables false
theorem chkC_ok {nm:List UInt8} {cs:List Col} (h:chkC nm cs=0):isNameB nm=true/\(∀ c∈cs,isNameB c.x=true/\badK c=false)/\cs.length<=5/\againI cs = -1:=by
 unfold chkC at h
 split at h
 ·cases h
 ·rename_i h1
  split at h
  ·cases h
  ·rename_i h2
   split at h
   ·cases h
   ·rename_i h3
    split at h
    ·cases h
    ·rename_i h4
     split at h
     ·cases h
     ·rename_i h5
      refine⟨by simpa using h1,fun c hc=>⟨?_,?_⟩,by omega,?_⟩
      ·have:=List.any_eq_false.1 (by simpa using h2:(cs.any fun c => !isNameB c.x)=false) c hc
       simpa using this
      ·have:=List.any_eq_false.1 (by simpa using h4:cs.any badK=false) c hc
       simpa using this
      ·rcases again_range cs [] 0 with h6 | ⟨j,h6,_⟩
       ·exact h6
       ·exact absurd (show 0<=againI cs by unfold againI;rw[h6];exact Int.natCast_nonneg _) h5
theorem nm_len {x:List UInt8} (h:isNameB x=true):1<=x.length/\x.length<=16:=by
 unfold isNameB at h
 simp only[decide_eq_true_eq] at h
 exact⟨List.length_pos_iff.2 h.1,h.2.2.2⟩
theorem show_len {nm:List UInt8} {cs:List Col} (h:chkC nm cs=0):1<=(showC nm cs).length/\(showC nm cs).length<=16384:=by
 obtain⟨h1,h2,h3,h4⟩:=chkC_ok h
 have hn:=nm_len h1
 have ht:∀ c∈cs,(colT c).length<=21:=by
  intro c hc
  have:=nm_len (h2 c hc).1
  unfold colT kindN
  simp only[List.length_append,List.length_cons,List.length_nil]
  split<;>simp<;>omega
 have hj:∀ l:List (List UInt8),(∀ x∈l,x.length<=21)->(Lib.join l [44,32]).length<=23 * l.length:=by
  intro l hl
  cases l with
  | nil=>simp [Lib.join_nil]
  | cons x r =>
    rw[Lib.join_cons,List.length_append,Lib.joinTail_length]
    have h1:=hl x List.mem_cons_self
    have h2:Lib.lens r<=21 * r.length:=by
     have:∀ r:List (List UInt8),(∀ x∈r,x.length<=21)->Lib.lens r<=21 * r.length:=by
      intro r
      induction r with
      | nil=>intro _;simp [Lib.lens]
      | cons y r ih =>
        intro hr
        have h3:=ih fun z hz=>hr z (List.mem_cons_of_mem _ hz)
        have h4:=hr y List.mem_cons_self
        simp only[Lib.lens,List.map_cons,List.sum_cons,List.length_cons] at h3 ⊢
        omega
     exact this r fun z hz=>hl z (List.mem_cons_of_mem _ hz)
    simp only[List.length_cons,List.length_nil]
    omega
 have:=hj (cs.map colT) (by intro x hx;simp at hx;obtain⟨c,hc,rfl⟩:=hx;exact ht c hc)
 rw[List.length_map] at this
 unfold showC
 rw[if_pos h]
 simp only[List.length_append,List.length_cons,List.length_nil]
 omega
theorem Tryz.infoCl:(Tryz.prog.info? 109).map (fun i=>(i.zero,i.size,i.bytes))=some (some (.agg #[.string ⟨#[]⟩,.int .i64 0]),2,24):=by kernel_rfl
set_option maxHeartbeats 1000000 in
theorem equal_col (d:Nat) (a b:Col) (w:World):(Op.equalIn (d+2) 109 (.agg a.cells.toArray) (.agg b.cells.toArray)).run Tryz.prog w=.ok (decide (a=b)) w:=by
 have hf:(Tryz.prog.fieldsOf 109).toList.map f3=[("Name",9,0),("Kind",107,1)]:=by kernel_rfl
 have p1:∀ w,(isAgg 107).run Tryz.prog w=.ok false w:=fun _=>by kernel_rfl
 have p3:∀ w,(isAgg 9).run Tryz.prog w=.ok false w:=fun _=>by kernel_rfl
 rw[run_equalIn_agg w (d+1) _ _ _ (by kernel_rfl) (by kernel_rfl),eqF_of,hf]
 have e1:=fun (x y:Int) (w:World)=>run_equalIn_int (P:=Tryz.prog) w d 107 .i64 .i64 x y Tryz.underlying107
 have e3:=fun (x y:ByteArray) (w:World)=>run_equalIn_string (P:=Tryz.prog) w d 9 x y Tryz.underlying9
 obtain⟨x,k⟩:=a
 obtain⟨x',k'⟩:=b
 simp only[Col.cells,eqF,part,Sem.run_bind,Sem.run_ite,p1,p3,Result.andThen_ok]
 by_cases h1:x=x'<;>by_cases h2:k=k'<;>simp [h1,h2,e1,e3,Col.mk.injEq]
theorem neq_col (a b:Col) (w:World):(binOp .neq 109 (.agg a.cells.toArray) (.agg b.cells.toArray)).run Tryz.prog w=.ok (.bool (!decide (a=b))) w:=by
 rw[run_neq_struct,equal_col 9998]
 rfl
set_option maxHeartbeats 2000000 in
set_option maxRecDepth 100000 in
theorem copyRel_any (w:World) (rel:ByteArray) (tv:Value) (ts:List Col) (h:RowAt w tv 2 (ts.map Col.cells)) (hn:ts.length<=5864062014634) :
 Calls Tryz.prog 28 #[.agg #[.string rel,tv]] w fun e w'=>∃ v,e=.returned (.agg #[.string rel,v])/\w'.ownsRow w.heap.size 109 2 v ts.length (ts.map Col.cells).flatten/\Below w.heap.size w w':=by
 obtain⟨i0,hi0,hz0,hz1,hz2⟩:=info_parts Tryz.infoCl
 obtain⟨ad,cap,rfl,hnc,hcm⟩:=h.form
 simp only[List.length_map] at hnc ⊢
 unfold maxLen at hcm
 have HL:=Lib.hid (col_len ts)
 have HO:=Lib.hid (col_one ts)
 have hlen:(ts.map Col.cells).length=ts.length:=by simp
 generalize ts.map Col.cells=xs at *
 generalize hN:ts.length=n at *
 rw[hlen] at h
 have HR:=Lib.hid h
 have HX:=Lib.hid hlen
 have HBX:=Lib.hid ((Blk.new w 57 #[.string rel,.slice ad n cap]).alloc (.cells #[.string ⟨#[]⟩,.slice none 0 0] 57))
 have HBY:=Lib.hid (blkNew1 w (.cells #[.string rel,.slice ad n cap] 57) 57 #[.string ⟨#[]⟩,.slice none 0 0])
 have HB0:=Lib.hid (balloc (balloc (Below.refl w.heap.size w) (.cells #[.string rel,.slice ad n cap] 57)) (.cells #[.string ⟨#[]⟩,.slice none 0 0] 57))
 clear h hN hlen
 go_enter Tryz.func28,Tryz.ntmps28
 go_wp2_with (at_make;refine wpList_make_full _ rfl _ _ 55 rfl w.heap.size 109 i0 (.agg #[.string ⟨#[]⟩,.int .i64 0]) 2 Tryz.underlying55 hi0 hz0 hz1 _ _ _ _ n rfl rfl rfl rfl ?b2 ?b3 ?b4 ?_)
 case b2=>rw[hz2];omega
 case b3=>unfold maxLen;omega
 case b4=>simp<;>omega
 intro w2 hown2 hgrow2
 have HOW2:=Lib.hid hown2
 have hbw2:Below w.heap.size w w2:=HB0.out.grown hgrow2 (by simp<;>omega) (fun q hq=>by cases hq)
 have HBW2:=Lib.hid hbw2
 have HR2:=Lib.hid (HR.out.keep hbw2)
 have bx:=HBX.out.grown hgrow2 (by simp)
 have hby:=HBY.out.grown hgrow2 (by simp)
 have x0:=bx.cell 0
 have x1:=bx.cell 1
 simp only[List.getElem?_toArray,List.getElem?_cons_zero,List.getElem?_cons_succ] at x0 x1
 have hxl:=bx.lt
 have HBX2:=Lib.hid bx
 have HBY2:=Lib.hid hby
 clear hbw2 hown2 hgrow2 bx hby
 go_wp2_with (refine wpList_copy_full rfl _ _ _ _ rfl 109 2 Tryz.underlying55 (by kernel_rfl) (w.heap.size+1+1) n _ rfl rfl _ w.heap.size HOW2.out xs HR2.out HX.out HL.out HO.out (by omega) ?_)
 intro w3 hown3 hmod3 hsz3
 have HOW3:=Lib.hid hown3
 have hbw3:=Mod.own HBW2.out hmod3 (by omega)
 have bx:=HBX2.out.mod hmod3 (by omega)
 have hby:=HBY2.out.mod hmod3 (by omega)
 have x0:=bx.cell 0
 simp only[List.getElem?_toArray,List.getElem?_cons_zero] at x0
 have hxl:=bx.lt
 have HBW3:=Lib.hid hbw3
 have HBY3:=Lib.hid hby
 clear hown3 hmod3 hsz3 bx hby hbw3
 go_wp2_with (refine wpList_store_blk rfl 57 _ _ rfl (w.heap.size+1) 57 _ _ rfl rfl HBY3.out (by kernel_rfl) rfl (by simp [Value.oneCell']) ?_)
 intro w4 hb4 hm4 hz4
 have r0:=hb4.cell 0
 have r1:=hb4.cell 1
 have HB4:=Lib.hid (Mod.own HBW3.out hm4 (by omega))
 have HO4:=Lib.hid (hm4.ownsRow HOW3.out (by intro q hq;simp [Value.ownBlock] at hq;omega))
 simp only[List.getElem?_toArray,List.getElem?_cons_zero,List.getElem?_cons_succ] at r0 r1
 clear hb4 hm4 hz4
 go_wp2_with fail
 exact bodyPost_ret (v:=.agg #[.string rel,.slice (some ⟨w.heap.size+1+1,0,none⟩) n n]) (by simp [results,Tryz.results28,go_sem, *]) rfl ⟨_,rfl,HO4.out,HB4.out⟩
set_option maxHeartbeats 4000000 in
set_option maxRecDepth 100000 in
theorem sameRel_any (w:World) (rel:ByteArray) (va vb:Value) (ts:List Col) (ha:RowAt w va 2 (ts.map Col.cells)) (hb:RowAt w vb 2 (ts.map Col.cells)) :
 Calls Tryz.prog 24 #[.agg #[.string rel,va],.agg #[.string rel,vb]] w fun e w'=>e=.returned (.bool true)/\Below w.heap.size w w':=by
 obtain⟨aa,ac,rfl,hac,ham⟩:=ha.form
 obtain⟨ba,bc,rfl,hbc,hbm⟩:=hb.form
 have hneq:∀ (x:List UInt8) (k:Int) (w:World),(binOp .neq 109 (.agg #[.string ⟨x.toArray⟩,.int .i64 k]) (.agg #[.string ⟨x.toArray⟩,.int .i64 k])).run Tryz.prog w=.ok (.bool false) w:=fun x k w=>by
  have:=neq_col ⟨x,k⟩ ⟨x,k⟩ w
  simpa [Col.cells] using this
 have hla:=ha.len
 unfold maxLen at ham hbm
 have HA:=Lib.hid ha
 have HB:=Lib.hid hb
 simp only[List.length_map] at hac hbc hla ⊢
 generalize hN:ts.length=n at *
 have HN:=Lib.hid hN
 clear ha hb hN
 go_enter Tryz.func24,Tryz.ntmps24
 go_wp2_with fail
 go_loopw [5] (fun i wr=>∃ k:Nat,k<=n/\i=.int .i64 k/\Hid (Blk wr w.heap.size 57 #[.string rel,.slice aa n ac])/\Hid (Blk wr (w.heap.size+1) 57 #[.string rel,.slice ba n bc])/\Hid (Below w.heap.size w wr)) (fun i _=>n - (intOf i).toNat)
 case atStart=>exact⟨0,Nat.zero_le _,rfl,Lib.hid ((Blk.new _ _ _).alloc _),Lib.hid (blkNew1 _ _ _ _),Lib.hid (balloc (balloc (Below.refl _ _) _) _)⟩
 case round =>
  obtain⟨k,hk,rfl,XA,XB,BW⟩:=hrel
  have a1:=XA.out.cell 1
  have b1:=XB.out.cell 1
  simp only[List.getElem?_toArray,List.getElem?_cons_zero,List.getElem?_cons_succ] at a1 b1
  have hal:=XA.out.lt
  have hbl:=XB.out.lt
  by_cases hlt:k<n
  ·obtain⟨t,ht⟩:∃ t,ts[k]? = some t:=⟨ts[k]'(by rw[HN.out];exact hlt),List.getElem?_eq_getElem (by rw[HN.out];exact hlt)⟩
   obtain⟨g1,o1,c1,hv1,_,_,hgl1,k1⟩:=(HA.out.keep BW.out).get (i:=k) (x:=t.cells) (by simp [ht])
   obtain⟨g2,o2,c2,hv2,_,_,hgl2,k2⟩:=(HB.out.keep BW.out).get (i:=k) (x:=t.cells) (by simp [ht])
   simp only[List.length_map,HN.out,Value.slice.injEq,true_and] at hv1 hv2
   obtain⟨rfl,rfl⟩:=hv1
   obtain⟨rfl,rfl⟩:=hv2
   have p0:=k1 0 _ rfl
   have p1:=k1 1 _ rfl
   have r0:=k2 0 _ rfl
   have r1:=k2 1 _ rfl
   simp only[Nat.add_zero] at p0 r0
   have hd:decide ((k:Int)<0)=false:=by simp
   have hd2:decide ((n:Int)<=(k:Int))=false:=by simp;omega
   clear k1 k2 ht
   go_wp2_with fail
   go_quiet (fail)
   go_wp2_with fail
   go_roundw
   case rel=>exact⟨k+1,by omega,by go_num,Lib.hid (XA.out.drewN _),Lib.hid (XB.out.drewN _),Lib.hid (bdrewN BW.out _)⟩
   case measure=>simp [intOf];omega
  ·obtain rfl:k=n:=by omega
   go_wp2_with fail
   go_ret
   exact⟨rfl,BW.out⟩
theorem chk_cases (nm:List UInt8) (cs:List Col) :
 (isNameB nm=false->chkC nm cs=72) /\
 (isNameB nm=true->∀ c∈cs,isNameB c.x=false->chkC nm cs=72) /\
 (isNameB nm=true->(∀ c∈cs,isNameB c.x=true)->5<cs.length->chkC nm cs=81) /\
 (isNameB nm=true->(∀ c∈cs,isNameB c.x=true)->¬ 5<cs.length->∀ c∈cs,badK c=true->chkC nm cs=83) /\
 (isNameB nm=true->(∀ c∈cs,isNameB c.x=true)->¬ 5<cs.length->(∀ c∈cs,badK c=false)->∀ k:Nat,againI cs=(k:Int)->chkC nm cs=82) /\
 (isNameB nm=true->(∀ c∈cs,isNameB c.x=true)->¬ 5<cs.length->(∀ c∈cs,badK c=false)->againI cs = -1->chkC nm cs=0):=by
 have hno:(∀ c∈cs,isNameB c.x=true)->(cs.any fun c => !isNameB c.x)=false:=fun h=>List.any_eq_false.2 fun c hc=>by rw[h c hc];decide
 have hkn:(∀ c∈cs,badK c=false)->cs.any badK=false:=fun h=>List.any_eq_false.2 fun c hc=>by rw[h c hc];decide
 unfold chkC
 refine⟨fun h=>by rw[if_pos h],fun h c hc hx=>?_,fun h h1 h2=>?_,fun h h1 h2 c hc hx=>?_,fun h h1 h2 h3 k hk=>?_,fun h h1 h2 h3 hk=>?_⟩
 ·have:(cs.any fun c => !isNameB c.x)=true:=List.any_eq_true.2 ⟨c,hc,by rw[hx];rfl⟩
  rw[if_neg (by rw[h];decide),if_pos this]
 ·rw[if_neg (by rw[h];decide),if_neg (by rw[hno h1];decide),if_pos h2]
 ·have:cs.any badK=true:=List.any_eq_true.2 ⟨c,hc,hx⟩
  rw[if_neg (by rw[h];decide),if_neg (by rw[hno h1];decide),if_neg h2,if_pos this]
 ·rw[if_neg (by rw[h];decide),if_neg (by rw[hno h1];decide),if_neg h2,if_neg (by rw[hkn h3];decide),if_pos (by rw[hk];exact Int.natCast_nonneg k)]
 ·rw[if_neg (by rw[h];decide),if_neg (by rw[hno h1];decide),if_neg h2,if_neg (by rw[hkn h3];decide),if_neg (by rw[hk];decide)]
set_option maxHeartbeats 8000000 in
set_option maxRecDepth 100000 in
theorem refCheck_any (w:World) (nm:ByteArray) (v:Value) (cs:List Col) (h:ColsAt w v cs) (hn:nm.size<=140737488355328) (hc:∀ c∈cs,c.x.length<=140737488355328) :
 Calls Tryz.prog 97 #[.agg #[.string nm,v]] w fun e w'=>e=.returned (.int .i64 (chkC nm.data.toList cs))/\Below w.heap.size w w':=by
 have hnot:∀ (x:Bool) (w:World),(Op.unary .not (.bool x)).run Tryz.prog w=.ok (.bool (!x)) w:=fun _ _=>rfl
 obtain⟨q1,q2,q3,q4,q5,q6⟩:=chk_cases nm.data.toList cs
 have hag:againG ((cs.take 0).map (·.x)) (cs.drop 0) 0=againI cs:=rfl
 obtain⟨ad,cap,rfl,hnc,hcm⟩:=h.form
 have hln:=h.len
 have hb0:Below w.heap.size w (w.alloc (.cells #[.string nm,.slice ad cs.length cap] 57)):=balloc (Below.refl _ _) _
 have HBX:=Lib.hid (Blk.new w 57 #[.string nm,.slice ad cs.length cap])
 have HR:=Lib.hid (h.keep hb0)
 have HIN:=Lib.hid (fun W=>refName_any nm W (by omega))
 have HIC:=Lib.hid (fun W (c:Col) (hm:c∈cs)=>refName_any ⟨c.x.toArray⟩ W (by
  have h1:=hc c hm
  have e:(⟨c.x.toArray⟩:ByteArray).size=c.x.length:=by simp [ByteArray.size]
  omega))
 generalize chkC nm.data.toList cs=RES at *
 have HB0:=Lib.hid hb0
 have Q1:=Lib.hid q1
 have Q2:=Lib.hid q2
 have Q3:=Lib.hid q3
 have Q4:=Lib.hid q4
 have Q5:=Lib.hid q5
 have Q6:=Lib.hid q6
 clear h hn hc hb0 q1 q2 q3 q4 q5 q6
 generalize isNameB nm.data.toList=bn at *
 generalize againI cs=AG at *
 have HAG:=Lib.hid hag
 clear hag
 obtain⟨w0,hw0⟩:∃ w0,w.alloc (.cells #[.string nm,.slice ad cs.length cap] 57)=w0:=⟨_,rfl⟩
 unfold maxLen at hcm
 cases bn with
 | false =>
   have hr:=Q1.out rfl
   subst hr
   clear hw0
   go_enter Tryz.func97,Tryz.ntmps97
   go_wp2_with fail
   refine (HIN.out _).mono ?_
   rintro e w2 ⟨rfl,rfl⟩
   go_wp2_with fail
   go_ret
   exact⟨rfl,HB0.out⟩
 | true =>
   generalize hN:cs.length=n at *
   have HN:=Lib.hid hN
   clear hN
   rw[hw0] at HBX HR HB0
   have hx1:=HBX.out.cell 1
   simp only[List.getElem?_toArray,List.getElem?_cons_zero,List.getElem?_cons_succ] at hx1
   have hxl:=HBX.out.lt
   have HW0:=Lib.hid hw0
   clear hw0
   go_enter Tryz.func97,Tryz.ntmps97
   go_wp2_with fail
   refine (HIN.out _).mono ?_
   rintro e w2 ⟨rfl,rfl⟩
   rw[HW0.out]
   go_wp2_with fail
   go_loop [3] (fun i=>∃ k:Nat,k<=n/\i=.int .i64 k/\Hid (∀ c∈cs.take k,isNameB c.x=true)) (fun i=>n - (intOf i).toNat)
   case atStart=>exact⟨0,Nat.zero_le _,rfl,Lib.hid (by simp)⟩
   case round =>
    obtain⟨k,hk,rfl,HP⟩:=hrel
    by_cases hlt:k<n
    ·obtain⟨c,hc⟩:∃ c,cs[k]? = some c:=⟨cs[k]'(by rw[HN.out];exact hlt),List.getElem?_eq_getElem (by rw[HN.out];exact hlt)⟩
     obtain⟨tb,tfo,tcap,htv,_,_,htbl,t0,t1⟩:=ColsAt.get HR.out hc
     simp only[HN.out,Value.slice.injEq,true_and] at htv
     obtain⟨rfl,rfl⟩:=htv
     have hm:=List.mem_of_getElem? hc
     have hic:=HIC.out w0 c hm
     have HM:=Lib.hid hm
     have hd:decide ((k:Int)<0)=false:=by simp
     have hd2:decide ((n:Int)<=(k:Int))=false:=by simp;omega
     cases hb:isNameB c.x with
     | false =>
       have hr:=Q2.out trivial c hm hb
       subst hr
       rw[show isNameB (⟨c.x.toArray⟩:ByteArray).data.toList=false from hb] at hic
       have HI:=Lib.hid hic
       clear hic hm hb hc
       go_wp2_with fail
       refine HI.out.mono ?_
       rintro e w2 ⟨rfl,rfl⟩
       go_wp2_with fail
       go_ret
       exact⟨rfl,HB0.out⟩
     | true =>
       rw[show isNameB (⟨c.x.toArray⟩:ByteArray).data.toList=true from hb] at hic
       have HI:=Lib.hid hic
       have HP2:Hid (∀ c∈cs.take (k+1),isNameB c.x=true):=Lib.hid (by
        rw[List.take_add_one,hc]
        intro d hd'
        simp at hd'
        rcases hd' with h1 | rfl
        ·exact HP.out d h1
        ·exact hb)
       clear hic hm hb hc
       go_wp2_with fail
       refine HI.out.mono ?_
       rintro e w2 ⟨rfl,rfl⟩
       go_wp2_with fail
       go_round
       case rel=>exact⟨k+1,by omega,by go_num,HP2⟩
       case measure=>simp [intOf];omega
    ·obtain rfl:k=n:=by omega
     have hall:∀ c∈cs,isNameB c.x=true:=by
      have:=HP.out
      rwa [List.take_of_length_le (by rw[HN.out];exact Nat.le_refl _)] at this
     have HALL:=Lib.hid hall
     clear hall
     by_cases h5:5<k
     ·have hr:=Q3.out trivial HALL.out h5
      subst hr
      have hd:(5:Int)<(k:Int):=by omega
      have hd2:¬ ((k:Int)<=5):=by omega
      go_wp2_with fail
      go_ret
      exact⟨rfl,HB0.out⟩
     ·have hd:¬ ((5:Int)<(k:Int)):=by omega
      have hd2:(k:Int)<=5:=by omega
      have H5:=Lib.hid h5
      clear h5
      go_wp2_with fail
      go_loop [4] (fun i=>∃ j:Nat,j<=k/\i=.int .i64 j/\Hid (∀ c∈cs.take j,badK c=false)) (fun i=>k - (intOf i).toNat)
      case atStart=>exact⟨0,Nat.zero_le _,rfl,Lib.hid (by simp)⟩
      case round =>
       obtain⟨j,hj,rfl,HP2⟩:=hrel
       by_cases hlt2:j<k
       ·obtain⟨c,hc⟩:∃ c,cs[j]? = some c:=⟨cs[j]'(by rw[HN.out];exact hlt2),List.getElem?_eq_getElem (by rw[HN.out];exact hlt2)⟩
        obtain⟨tb,tfo,tcap,htv,_,_,htbl,t0,t1⟩:=ColsAt.get HR.out hc
        simp only[HN.out,Value.slice.injEq,true_and] at htv
        obtain⟨rfl,rfl⟩:=htv
        have hm:=List.mem_of_getElem? hc
        have hdj:decide ((j:Int)<0)=false:=by simp
        have hdj2:decide ((k:Int)<=(j:Int))=false:=by simp;omega
        have hgood:c.k=1∨c.k=2->Hid (∀ c∈cs.take (j+1),badK c=false):=fun hk=>Lib.hid (by
         rw[List.take_add_one,hc]
         intro d hd'
         simp at hd'
         rcases hd' with h1 | rfl
         ·exact HP2.out d h1
         ·unfold badK
          rcases hk with hk | hk<;>simp [hk])
        by_cases hk1:c.k=1
        ·have q1:(c.k != 1)=false:=by simp [hk1]
         have HP3:=hgood (.inl hk1)
         clear hgood hm hc hk1
         go_wp2_with fail
         go_round
         case rel=>exact⟨j+1,by omega,by go_num,HP3⟩
         case measure=>simp [intOf];omega
        ·have q1:(c.k != 1)=true:=by simpa using hk1
         by_cases hk2:c.k=2
         ·have q2:(c.k != 2)=false:=by simp [hk2]
          have HP3:=hgood (.inr hk2)
          clear hgood hm hc hk1 hk2
          go_wp2_with fail
          go_round
          case rel=>exact⟨j+1,by omega,by go_num,HP3⟩
          case measure=>simp [intOf];omega
         ·have q2:(c.k != 2)=true:=by simpa using hk2
          have hr:=Q4.out trivial HALL.out H5.out c hm (by unfold badK;simp [hk1,hk2])
          subst hr
          clear hgood hm hc hk1 hk2
          go_wp2_with fail
          go_ret
          exact⟨rfl,HB0.out⟩
       ·obtain rfl:j=k:=by omega
        have hallk:∀ c∈cs,badK c=false:=by
         have:=HP2.out
         rwa [List.take_of_length_le (by rw[HN.out];exact Nat.le_refl _)] at this
        have HALLK:=Lib.hid hallk
        clear hallk HP2
        go_wp2_with fail
        go_loopw [5] (fun i wr=>∃ m:Nat,m<=j/\i=.int .i64 m/\Hid (againG ((cs.take m).map (·.x)) (cs.drop m) m=AG)/\Hid (Below w0.heap.size w0 wr)) (fun i _=>j - (intOf i).toNat)
        case atStart=>exact⟨0,Nat.zero_le _,rfl,HAG,Lib.hid (Below.refl _ _)⟩
        case round =>
         obtain⟨m,hm,rfl,HG,BW⟩:=hrel
         obtain⟨wo,rfl⟩:∃ wo:World,wo=wr:=⟨_,rfl⟩
         have xo:=(BW.out.cell (p:=⟨w.heap.size,1,none⟩) hxl).trans hx1
         have xol:w.heap.size<wo.heap.size:=Nat.lt_of_lt_of_le hxl BW.out.size
         by_cases hlt3:m<j
         ·obtain⟨c,hc⟩:∃ c,cs[m]? = some c:=⟨cs[m]'(by rw[HN.out];exact hlt3),List.getElem?_eq_getElem (by rw[HN.out];exact hlt3)⟩
          have HC:=Lib.hid hc
          clear hc
          go_wp2_with fail
          go_loopw [6] (fun i wr=>∃ j2:Nat,j2<=m/\i=.int .i64 j2/\Hid (c.x ∉ (cs.take j2).map (·.x))/\Hid (Below w0.heap.size w0 wr)) (fun i _=>m - (intOf i).toNat)
          case atStart=>exact⟨0,Nat.zero_le _,rfl,Lib.hid (by simp),BW⟩
          case round =>
           obtain⟨j2,hj2,rfl,HNI,BW2⟩:=hrel
           have xr:=(BW2.out.cell (p:=⟨w.heap.size,1,none⟩) hxl).trans hx1
           have xrl:w.heap.size<wr.heap.size:=Nat.lt_of_lt_of_le hxl BW2.out.size
           by_cases hlt4:j2<m
           ·obtain⟨d,hd0⟩:∃ d,cs[j2]? = some d:=⟨cs[j2]'(by rw[HN.out];omega),List.getElem?_eq_getElem (by rw[HN.out];omega)⟩
            obtain⟨tb,tfo,tcap,htv,_,_,htbl,t0,t1⟩:=(ColsAt.keep HR.out BW2.out).get HC.out
            simp only[HN.out,Value.slice.injEq,true_and] at htv
            obtain⟨rfl,rfl⟩:=htv
            obtain⟨ub,uo,ucap,huv,_,_,hubl,u0,u1⟩:=(ColsAt.keep HR.out BW2.out).get hd0
            simp only[HN.out,Value.slice.injEq,Option.some.injEq,Addr.mk.injEq,true_and,and_true] at huv
            obtain⟨⟨rfl,rfl⟩,rfl⟩:=huv
            have hdm:decide ((m:Int)<0)=false:=by simp
            have hdm2:decide ((j:Int)<=(m:Int))=false:=by simp;omega
            have hdk:decide ((j2:Int)<0)=false:=by simp
            have hdk2:decide ((j:Int)<=(j2:Int))=false:=by simp;omega
            by_cases he:c.x=d.x
            ·have q1:(c.x == d.x)=true:=by rw[he];exact beq_self_eq_true _
             have hmem:c.x∈(cs.take m).map (·.x):=by
              rw[he]
              refine List.mem_map.2 ⟨d,?_,rfl⟩
              rw[List.mem_take_iff_getElem]
              exact⟨j2,by rw[HN.out];omega,(List.getElem?_eq_some_iff.1 hd0).2⟩
             have hg:=HG.out
             rw[again_hit HC.out hmem] at hg
             have hr:=Q5.out trivial HALL.out H5.out HALLK.out m hg.symm
             subst hr
             clear hmem hg he hd0
             go_wp2_with fail
             go_quiet (fail)
             go_wp2_with fail
             go_ret
             exact⟨rfl,HB0.out.trans ((bdrewN BW2.out _).mono HB0.out.size)⟩
            ·have q1:(c.x == d.x)=false:=by simpa using he
             have HNI2:Hid (c.x ∉ (cs.take (j2+1)).map (·.x)):=Lib.hid (by
              rw[List.take_add_one,hd0]
              intro h1
              simp only[Option.toList_some,List.map_append,List.map_cons,List.map_nil,List.mem_append,List.mem_singleton] at h1
              rcases h1 with h1 | h1
              ·exact HNI.out h1
              ·exact he h1)
             clear he hd0
             go_wp2_with fail
             go_quiet (fail)
             go_wp2_with fail
             go_roundw
             case rel=>exact⟨j2+1,by omega,by go_num,HNI2,Lib.hid (bdrewN BW2.out _)⟩
             case measure=>simp [intOf];omega
           ·obtain rfl:j2=m:=by omega
            have hg:=HG.out
            rw[again_step HC.out HNI.out] at hg
            have HG2:=Lib.hid hg
            clear hg
            go_wp2_with fail
            go_roundw
            case rel=>exact⟨j2+1,by omega,by go_num,HG2,BW2⟩
            case measure=>simp [intOf];omega
         ·obtain rfl:m=j:=by omega
          have hg:=HG.out
          rw[List.drop_of_length_le (by rw[HN.out];exact Nat.le_refl _)] at hg
          unfold againG at hg
          have hr:=Q6.out trivial HALL.out H5.out HALLK.out hg.symm
          subst hr
          clear hg
          go_wp2_with fail
          go_ret
          exact⟨rfl,HB0.out.trans (BW.out.mono HB0.out.size)⟩
theorem Tryz.infoTx:(Tryz.prog.info? 9).map (fun i=>(i.zero,i.size,i.bytes))=some (some (.string ⟨#[]⟩),1,16):=by kernel_rfl
def rowT (cs:List Col) (k:Nat):List (List UInt8):=(cs.take k).map colT++(cs.drop k).map fun _=>[]
theorem rowT_len (cs:List Col) (k:Nat):(rowT cs k).length=cs.length:=by
 unfold rowT
 simp
 omega
theorem rowT_set {cs:List Col} {k:Nat} {c:Col} (h:cs[k]? = some c):(rowT cs k).set k (colT c)=rowT cs (k+1):=by
 have hk:=(List.getElem?_eq_some_iff.1 h).1
 have hl:((cs.take k).map colT).length=k:=by rw[List.length_map,List.length_take];omega
 have e1:(cs.take (k+1)).map colT=(cs.take k).map colT++[colT c]:=by
  rw[List.take_add_one,h]
  simp
 have e2:cs.drop k=cs[k]::cs.drop (k+1):=List.drop_eq_getElem_cons hk
 unfold rowT
 rw[e1,e2,List.map_cons,List.set_append_right _ _ (by omega),hl,Nat.sub_self,List.set_cons_zero,List.append_assoc]
 rfl
theorem empties:∀ l:List Col,List.replicate l.length [Value.string ⟨#[]⟩]=(l.map fun _=>([]:List UInt8)).map strC
 | []=>rfl
 | _::l=>by
   simp only[List.length_cons,List.replicate_succ,List.map_cons]
   rw[empties l]
   rfl
theorem rowT_zero (cs:List Col):(madeCells #[.string ⟨#[]⟩] cs.length).toList=((rowT cs 0).map strC).flatten:=by
 have h:=made_rows [.string ⟨#[]⟩] cs.length (by simp)
 rw[empties cs,show cs.length * ([Value.string ⟨#[]⟩]:List Value).length=cs.length from Nat.mul_one _] at h
 unfold rowT
 simp only[List.take_zero,List.map_nil,List.drop_zero,List.nil_append]
 exact h
theorem rowT_all (cs:List Col):rowT cs cs.length=cs.map colT:=by
 unfold rowT
 simp
theorem strC1 (l:List (List UInt8)):∀ x∈l.map strC,x.length=1:=by
 intro x hx
 simp at hx
 obtain⟨t,_,rfl⟩:=hx
 rfl
theorem own_setText {w:World} {g k n cap base:Nat} {l:List (List UInt8)} {s:List UInt8} (hown:w.ownsRow base 9 1 (.slice (some ⟨g,0,none⟩) n cap) n (l.map strC).flatten) (hn:l.length=n) (hk:k<n) :
 (w.setCell ⟨g,k,none⟩ (.string ⟨s.toArray⟩)).ownsRow base 9 1 (.slice (some ⟨g,0,none⟩) n cap) n ((l.set k s).map strC).flatten/\Mod (fun j=>j=g) w (w.setCell ⟨g,k,none⟩ (.string ⟨s.toArray⟩)):=by
 have h:=own_setCells (cells:=[.string ⟨s.toArray⟩]) hown (strC1 l) (by rw[List.length_map,hn]) hk (by intro v hv;simp at hv;subst hv;rfl)
 have e:w.setCells g (k * ([Value.string ⟨s.toArray⟩]:List Value).length) [.string ⟨s.toArray⟩]=w.setCell ⟨g,k,none⟩ (.string ⟨s.toArray⟩):=by
  simp [World.setCells]
 rw[e] at h
 rw[List.map_set]
 exact⟨h.1,h.2.1⟩
theorem Mod.ownZ {b g:Nat} {w0 w w':World} (hz:w0.heap.size=g) (h:Below g w0 w) (hm:Mod (fun k=>k=b) w w') (hb:g<=b):Below g w0 w':=by
 subst hz
 exact Mod.own h hm hb
theorem Blk.belowZ {g b:Nat} {w0 w:World} {t:TypeId} {cs:Array Value} (hz:w0.heap.size=g) (h:Blk w0 b t cs) (hb:Below g w0 w):Blk w b t cs:=by
 subst hz
 exact h.below hb h.lt
theorem Below.allocZ {g:Nat} {w0 w:World} (hz:w0.heap.size=g) (h:Below g w0 w) (o:Obj):Below g w0 (w.alloc o):=by
 subst hz
 exact balloc h o
theorem text_cells {w:World} {g n cap base:Nat} {l:List (List UInt8)} (hown:w.ownsRow base 9 1 (.slice (some ⟨g,0,none⟩) n cap) n (l.map strC).flatten) (hn:l.length=n) (j:Nat) (x:ByteArray) (hx:(l.map fun s=>(⟨s.toArray⟩:ByteArray))[j]? = some x):w.cell? ⟨g,0+j,none⟩=some (.string x):=by
 rw[List.getElem?_map] at hx
 cases hs:l[j]? with
 | none=>rw[hs] at hx;simp at hx
 | some s =>
   rw[hs] at hx
   simp at hx
   subst hx
   have hj:=(List.getElem?_eq_some_iff.1 hs).1
   have h1:=hown.cellAt j (by omega)
   have h2:=flatten_at (strC1 l) (i:=j) (j:=0) (x:=strC s) (u:=.string ⟨s.toArray⟩) (by simp [hs]) rfl
   simp only[Nat.mul_one,Nat.add_zero] at h2
   rw[Nat.zero_add]
   exact h1.trans h2
theorem texts_back (l:List (List UInt8)):(l.map fun s=>(⟨s.toArray⟩:ByteArray)).map (·.data.toList)=l:=by
 rw[List.map_map]
 conv=>rhs;rw[<-List.map_id l]
 apply List.map_congr_left
 intro a _
 simp
set_option maxHeartbeats 8000000 in
set_option maxRecDepth 100000 in
theorem show_good8 (w:World) (nm:ByteArray) (v:Value) (cs:List Col) (h:ColsAt w v cs) (hk:chkC nm.data.toList cs=0) :
 Calls Tryz.prog 68 #[.agg #[.string nm,v]] w fun e w'=>e=.returned (.string ⟨(showC nm.data.toList cs).toArray⟩)/\Below w.heap.size w w':=by
 obtain⟨i0,hi0,hz0,hz1,hz2⟩:=info_parts Tryz.infoTx
 obtain⟨k1,k2,k3,k4⟩:=chkC_ok hk
 have hnl:=nm_len k1
 have hsh:=(show_len hk).2
 have hb0:Below w.heap.size w (w.alloc (.cells #[.string nm,v] 57)):=balloc (Below.refl _ _) _
 have hbx:=Blk.new w 57 #[.string nm,v]
 have hch:=check_any _ nm v cs (h.keep hb0) (by have:nm.size=nm.data.toList.length:=rfl;omega) (fun c hc=>by have:=nm_len (k2 c hc).1;omega)
 rw[hk] at hch
 obtain⟨ad,cap,rfl,hnc,hcm⟩:=h.form
 have hnz:nm.size<=16:=hnl.2
 have hcx:∀ c∈cs,c.x.length<=16:=fun c hc=>(nm_len (k2 c hc).1).2
 have hjn:(Lib.join (rowT cs cs.length) [44,32]).length<=16384/\showC nm.data.toList cs=nm.data.toList++[40]++Lib.join (rowT cs cs.length) [44,32]++[41]:=by
  have e:showC nm.data.toList cs=nm.data.toList++[40]++Lib.join (cs.map colT) [44,32]++[41]:=by
   unfold showC
   rw[if_pos hk]
  rw[rowT_all]
  rw[e] at hsh
  simp only[List.length_append] at hsh
  exact⟨by omega,e⟩
 obtain⟨hjl,hjs⟩:=hjn
 rw[hjs]
 have HR:=Lib.hid h
 have HJL:=Lib.hid hjl
 have HC:=Lib.hid hch
 have HB0:=Lib.hid hb0
 have HBX:=Lib.hid hbx
 have HCX:=Lib.hid hcx
 have hrl:=rowT_len cs
 have hr0:=rowT_zero cs
 have hrs:=fun k c=>rowT_set (cs:=cs) (k:=k) (c:=c)
 have HRS:=Lib.hid hrs
 clear h hch hb0 hbx k1 k2 k4 hk hsh hnl hjl hjs hcx hrs
 generalize hN:cs.length=n at *
 have HN:=Lib.hid hN
 have HRL:=Lib.hid hrl
 have HR0:=Lib.hid hr0
 clear hN hrl hr0
 go_enter Tryz.func68,Tryz.ntmps68
 go_wp2_with fail
 refine HC.out.mono ?_
 rintro e w2 ⟨rfl,hb2⟩
 have HB2:=Lib.hid (HB0.out.trans (hb2.mono (by simp)))
 have HBX2:=Lib.hid (HBX.out.below hb2 (by simp))
 have x1:=HBX2.out.cell 1
 simp only[List.getElem?_toArray,List.getElem?_cons_zero,List.getElem?_cons_succ] at x1
 have hxl:=HBX2.out.lt
 clear hb2 HC
 go_wp2_with (at_make;refine wpList_make_full _ rfl _ _ 28 rfl w.heap.size 9 i0 (.string ⟨#[]⟩) 1 Tryz.underlying28 hi0 hz0 hz1 _ _ _ _ n rfl rfl rfl rfl ?b2 ?b3 ?b4 ?_)
 case b2=>rw[hz2];omega
 case b3=>unfold maxLen;omega
 case b4=>exact HB2.out.size
 intro w5 hown5 hgrow5
 rw[HR0.out] at hown5
 have HO5:=Lib.hid hown5
 have hb5:Below w2.heap.size w2 w5:=Below.grown (Below.refl _ _) hgrow5 (Nat.le_refl _) (fun q hq=>by cases hq)
 have HB5:=Lib.hid hb5
 have HBX5:=Lib.hid (HBX2.out.below hb5 HBX2.out.lt)
 have x1:=HBX5.out.cell 1
 simp only[List.getElem?_toArray,List.getElem?_cons_zero,List.getElem?_cons_succ] at x1
 have hxl:=HBX5.out.lt
 have hw2:=HB2.out.size
 have HW2:=Lib.hid hw2
 generalize hgz:w2.heap.size=g at *
 have HGZ:=Lib.hid hgz
 clear hown5 hgrow5 hgz hb5
 go_wp2_with fail
 go_loopw [16] (fun i wr=>∃ k:Nat,k<=n/\i=.int .i64 k/\Hid (wr.ownsRow w.heap.size 9 1 (.slice (some ⟨g,0,none⟩) n n) n ((rowT cs k).map strC).flatten)/\Hid (Below g w2 wr)) (fun i _=>n - (intOf i).toNat)
 case atStart=>exact⟨0,Nat.zero_le _,rfl,HO5,HB5⟩
 case round =>
  obtain⟨k,hk,rfl,OW,BG⟩:=hrel
  have hbw:Below w.heap.size w wr:=HB2.out.trans (BG.out.mono HW2.out)
  have BW:=Lib.hid hbw
  by_cases hkn:k<n
  ·obtain⟨c,hc⟩:∃ c,cs[k]? = some c:=⟨cs[k]'(by rw[HN.out];exact hkn),List.getElem?_eq_getElem (by rw[HN.out];exact hkn)⟩
   obtain⟨tb,tfo,tcap,htv,_,_,htbl,t0,t1⟩:=(ColsAt.keep HR.out BW.out).get hc
   simp only[HN.out,Value.slice.injEq,true_and] at htv
   obtain⟨rfl,rfl⟩:=htv
   have hcx:=HCX.out c (List.mem_of_getElem? hc)
   have hset:=HRS.out k c hc
   have HSET:=Lib.hid hset
   obtain⟨⟨u,hu⟩,hfz,hgl⟩:=own_cell OW.out hkn (j:=0) (by decide)
   simp only[Nat.mul_one,Nat.add_zero] at hu hfz
   have hkl:(kindN c.k).length<=4:=by
    unfold kindN
    split<;>simp
   have hcT:colT c=c.x++[32]++kindN c.k:=rfl
   have HK:=Lib.hid (fun W=>kindName_any c.k W)
   rw[hcT] at HSET
   generalize kindN c.k=kn at *
   have hl1:¬ 9223372036854775807<c.x.length+1:=by omega
   have hl2:¬ 9223372036854775807<c.x.length+1+kn.length:=by omega
   have hcc:(ByteArray.mk c.x.toArray++ByteArray.mk #[32])++ByteArray.mk kn.toArray=⟨(c.x++[32]++kn).toArray⟩:=by
    apply ByteArray.ext
    simp
   have HCC:=Lib.hid hcc
   have hdk:decide ((k:Int)<0)=false:=by simp
   have hdn:decide ((n:Int)<=(k:Int))=false:=by simp;omega
   have hgw:g≠wr.heap.size:=by omega
   clear hc hset hcT hcc
   go_wp2_with fail
   go_region_law (go_simp;go_at_call 148;refine (HK.out _).mono ?_;rintro e w6 ⟨rfl,rfl⟩)
   all_goals
    go_wp2_with fail
    go_roundw
    case rel =>
     have h2:=own_setText (s:=c.x++[32]++kn) OW.out (HRL.out k) hkn
     rw[HSET.out] at h2
     refine⟨k+1,by omega,by go_num,Lib.hid ?_,Lib.hid ?_⟩
     ·rw[HCC.out]
      exact (MT.ofBelow (B:=0) (Ts:=[]) (bdrew (balloc (Below.refl _ _) _))).ownsRow h2.1 (by simp)
     ·rw[HCC.out]
      exact bdrew (Below.allocZ HGZ.out (Mod.ownZ HGZ.out BG.out h2.2 (Nat.le_refl _)) _)
    case measure=>simp [intOf];omega
  ·obtain rfl:k=n:=by omega
   have hxb:=Blk.belowZ HGZ.out HBX2.out BG.out
   have x0:=hxb.cell 0
   have x1:=hxb.cell 1
   simp only[List.getElem?_toArray,List.getElem?_cons_zero,List.getElem?_cons_succ] at x0 x1
   have hxl:=hxb.lt
   have hgl:=(OW.out.lt g rfl).2
   have ho:=(MT.ofBelow (B:=0) (Ts:=[]) (bdrew (Below.refl wr.heap.size wr))).ownsRow OW.out (by simp)
   have hj:=Tryz.strings_Join g 0 k ((rowT cs k).map fun s=>(⟨s.toArray⟩:ByteArray)) ⟨#[44,32]⟩ wr.drew (text_cells ho (HRL.out k)) (by simpa using hgl) (by rw[List.length_map,HRL.out k];omega) (by rw[List.length_map,HRL.out k];exact Nat.le_refl _) (by rw[texts_back];exact Nat.le_trans HJL.out (by decide))
   rw[texts_back,List.length_map,HRL.out k] at hj
   have hjl:(Lib.join (rowT cs k) [44,32]).length<=16384:=HJL.out
   have hj':Calls Tryz.prog 149 #[.slice (some ⟨g,0,none⟩) k k,.string ⟨#[44,32]⟩] wr.drew fun e w'=>e=.returned (.string ⟨(Lib.join (rowT cs k) [44,32]).toArray⟩)/\Below wr.drew.heap.size wr.drew w':=hj
   obtain⟨J,hJ⟩:∃ J,J=Lib.join (rowT cs k) [44,32]:=⟨_,rfl⟩
   rw[<-hJ] at hj' hjl
   have HJ:=Lib.hid hj'
   have hl1:¬ 9223372036854775807<nm.size+1:=by omega
   have hl2:¬ 9223372036854775807<nm.size+1+J.length:=by omega
   have hl3:¬ 9223372036854775807<nm.size+1+J.length+1:=by omega
   have hcc:nm++ByteArray.mk #[40]++ByteArray.mk J.toArray++ByteArray.mk #[41]=⟨(nm.data.toList++[40]++Lib.join (rowT cs k) [44,32]++[41]).toArray⟩:=by
    rw[<-hJ]
    apply ByteArray.ext
    simp
   have HCC:=Lib.hid hcc
   have HBB:=Lib.hid (bdrew BW.out)
   clear hxb ho hj hj' hcc hJ
   go_wp2_with fail
   go_region_law (go_simp;go_at_call 149;refine HJ.out.mono ?_;rintro e w6 ⟨rfl,hb6⟩;have y0:=(hb6.cell (p:=⟨w.heap.size,0,none⟩) hxl).trans (show wr.drew.cell? ⟨w.heap.size,0,none⟩=_ from x0))
   all_goals
    have HB6:=Lib.hid (HBB.out.trans (hb6.mono HBB.out.size))
    clear hb6
    go_wp2_with fail
    go_ret
    exact⟨(congrArg (fun x=>Ending.returned (Value.string x)) HCC.out),HB6.out⟩
theorem join_snoc (l:List (List UInt8)) (x sep:List UInt8) (h:l≠[]):Lib.join (l++[x]) sep=Lib.join l sep++sep++x:=by
 cases l with
 | nil=>exact absurd rfl h
 | cons a r =>
   rw[List.cons_append,Lib.join_cons,Lib.join_cons]
   simp [Lib.joinTail]
set_option maxHeartbeats 8000000 in
set_option maxRecDepth 100000 in
theorem refShow_good (w:World) (nm:ByteArray) (v:Value) (cs:List Col) (h:ColsAt w v cs) (hk:chkC nm.data.toList cs=0) :
 Calls Tryz.prog 35 #[.agg #[.string nm,v]] w fun e w'=>e=.returned (.string ⟨(showC nm.data.toList cs).toArray⟩)/\Below w.heap.size w w':=by
 obtain⟨k1,k2,k3,k4⟩:=chkC_ok hk
 have hnl:=nm_len k1
 have hb0:Below w.heap.size w (w.alloc (.cells #[.string nm,v] 57)):=balloc (Below.refl _ _) _
 have hbx:=Blk.new w 57 #[.string nm,v]
 have hch:=refCheck_any _ nm v cs (h.keep hb0) (by have:nm.size=nm.data.toList.length:=rfl;omega) (fun c hc=>by have:=nm_len (k2 c hc).1;omega)
 rw[hk] at hch
 obtain⟨ad,cap,rfl,hnc,hcm⟩:=h.form
 have hnz:nm.size<=16:=hnl.2
 have hcx:∀ c∈cs,c.x.length<=16/\(c.k=1∨c.k=2):=fun c hc=>⟨(nm_len (k2 c hc).1).2,by
  have:=(k2 c hc).2
  unfold badK at this
  simp only[decide_eq_false_iff_not] at this
  omega⟩
 have hsh:showC nm.data.toList cs=nm.data.toList++[40]++Lib.join (cs.map colT) [44,32]++[41]:=by
  unfold showC
  rw[if_pos hk]
 rw[hsh]
 have HR:=Lib.hid h
 have HC:=Lib.hid hch
 have HB0:=Lib.hid hb0
 have HBX:=Lib.hid hbx
 have HCX:=Lib.hid hcx
 unfold maxLen at hcm
 clear h hch hb0 hbx k1 k2 k4 hk hsh hnl hcx
 generalize hN:cs.length=n at *
 have HN:=Lib.hid hN
 clear hN
 go_enter Tryz.func35,Tryz.ntmps35
 go_wp2_with fail
 refine HC.out.mono ?_
 rintro e w2 ⟨rfl,hb2⟩
 have HB2:=Lib.hid (HB0.out.trans (hb2.mono (by simp)))
 have hbx2:=HBX.out.below hb2 (by simp)
 have x0:=hbx2.cell 0
 have x1:=hbx2.cell 1
 simp only[List.getElem?_toArray,List.getElem?_cons_zero,List.getElem?_cons_succ] at x0 x1
 have hxl:=hbx2.lt
 have hl0:nm.size+1<=9223372036854775807:=by omega
 clear hb2 hbx2 HC
 go_wp2_with fail
 go_loop [3,4] (fun s i=>∃ (k:Nat) (S:ByteArray),k<=n/\s=.string S/\i=.int .i64 k/\S.size<=17+23 * k/\Hid (S.data.toList=nm.data.toList++[40]++Lib.join ((cs.take k).map colT) [44,32])) (fun _ i=>n - (intOf i).toNat)
 case atStart=>exact⟨0,nm++⟨#[40]⟩,Nat.zero_le _,rfl,rfl,by rw[ByteArray.size_append,show (⟨#[40]⟩:ByteArray).size=1 from rfl];omega,Lib.hid (by simp [Lib.join_nil])⟩
 case round =>
  obtain⟨k,S,hk,rfl,rfl,hS,HS⟩:=hrel
  by_cases hkn:k<n
  ·obtain⟨c,hc⟩:∃ c,cs[k]? = some c:=⟨cs[k]'(by rw[HN.out];exact hkn),List.getElem?_eq_getElem (by rw[HN.out];exact hkn)⟩
   obtain⟨tb,tfo,tcap,htv,_,_,htbl,t0,t1⟩:=(ColsAt.keep HR.out HB2.out).get hc
   simp only[HN.out,Value.slice.injEq,true_and] at htv
   obtain⟨rfl,rfl⟩:=htv
   obtain⟨hcl,hck⟩:=HCX.out c (List.mem_of_getElem? hc)
   have htk:(cs.take (k+1)).map colT=(cs.take k).map colT++[colT c]:=by
    rw[List.take_add_one,hc]
    simp
   have HTK:=Lib.hid htk
   have hlk:((cs.take k).map colT).length=k:=by rw[List.length_map,List.length_take,HN.out];omega
   have HLK:=Lib.hid hlk
   have z2:(⟨#[44,32]⟩:ByteArray).size=2:=rfl
   have z4:(⟨#[32,105,110,116]⟩:ByteArray).size=4:=rfl
   have z5:(⟨#[32,116,101,120,116]⟩:ByteArray).size=5:=rfl
   have zc:(⟨c.x.toArray⟩:ByteArray).size=c.x.length:=by simp [ByteArray.size]
   have hdk:decide ((k:Int)<0)=false:=by simp
   have hdn:decide ((n:Int)<=(k:Int))=false:=by simp;omega
   clear hc htk hlk
   by_cases h0:k=0
   ·subst h0
    simp only[Nat.zero_mul,Nat.add_zero] at t0 t1
    have e0:Lib.join ((cs.take (0+1)).map colT) [44,32]=colT c:=by
     rw[HTK.out]
     simp [Lib.join_one]
    have E0:=Lib.hid e0
    have b1:S.size+c.x.length<=9223372036854775807:=by omega
    have b2:S.size+c.x.length+4<=9223372036854775807:=by omega
    have b3:S.size+c.x.length+5<=9223372036854775807:=by omega
    clear e0
    rcases hck with hck | hck
    ·have q1:(c.k == 1)=true:=by simp [hck]
     have hct:colT c=c.x++[32,105,110,116]:=by simp [colT,kindN,hck]
     have HCT:=Lib.hid hct
     clear hct hck
     go_wp2_with fail
     go_round
     case rel=>exact⟨0+1,_,by omega,rfl,by go_num,by simp only[ByteArray.size_append];omega,Lib.hid (by rw[E0.out,HCT.out];simp [HS.out,Lib.join_nil])⟩
     case measure=>simp [intOf];omega
    ·have q1:(c.k == 1)=false:=by simp [hck]
     have hct:colT c=c.x++[32,116,101,120,116]:=by simp [colT,kindN,hck]
     have HCT:=Lib.hid hct
     clear hct hck
     go_wp2_with fail
     go_round
     case rel=>exact⟨0+1,_,by omega,rfl,by go_num,by simp only[ByteArray.size_append];omega,Lib.hid (by rw[E0.out,HCT.out];simp [HS.out,Lib.join_nil])⟩
     case measure=>simp [intOf];omega
   ·have e0:Lib.join ((cs.take (k+1)).map colT) [44,32]=Lib.join ((cs.take k).map colT) [44,32]++[44,32]++colT c:=by
     rw[HTK.out]
     refine join_snoc _ _ _ fun e=>?_
     have:=HLK.out
     rw[e] at this
     simp at this
     exact h0 this.symm
    have E0:=Lib.hid e0
    have hk0:decide ((0:Int)<(k:Int))=true:=by simp;omega
    have b0:S.size+2<=9223372036854775807:=by omega
    have b1:S.size+2+c.x.length<=9223372036854775807:=by omega
    have b2:S.size+2+c.x.length+4<=9223372036854775807:=by omega
    have b3:S.size+2+c.x.length+5<=9223372036854775807:=by omega
    have hk1:0<k:=by omega
    clear e0 h0
    rcases hck with hck | hck
    ·have q1:(c.k == 1)=true:=by simp [hck]
     have hct:colT c=c.x++[32,105,110,116]:=by simp [colT,kindN,hck]
     have HCT:=Lib.hid hct
     clear hct hck
     go_wp2_with fail
     go_round
     case rel=>exact⟨k+1,_,by omega,rfl,by go_num,by simp only[ByteArray.size_append];omega,Lib.hid (by rw[E0.out,HCT.out];simp [HS.out])⟩
     case measure=>simp [intOf];omega
    ·have q1:(c.k == 1)=false:=by simp [hck]
     have hct:colT c=c.x++[32,116,101,120,116]:=by simp [colT,kindN,hck]
     have HCT:=Lib.hid hct
     clear hct hck
     go_wp2_with fail
     go_round
     case rel=>exact⟨k+1,_,by omega,rfl,by go_num,by simp only[ByteArray.size_append];omega,Lib.hid (by rw[E0.out,HCT.out];simp [HS.out])⟩
     case measure=>simp [intOf];omega
  ·obtain rfl:k=n:=by omega
   have hs:=HS.out
   rw[List.take_of_length_le (by rw[HN.out];exact Nat.le_refl _)] at hs
   have HS2:=Lib.hid hs
   have b0:S.size+1<=9223372036854775807:=by omega
   clear hs
   go_wp2_with fail
   go_ret
   have hcc:S++⟨#[41]⟩=⟨(nm.data.toList++40::(Lib.join (cs.map colT) [44,32]++[41])).toArray⟩:=by
    apply ByteArray.ext
    apply Array.toList_inj.1
    simp [HS2.out]
   refine⟨?_,HB2.out⟩
   rw[<-hcc]
   rfl
end Go.Proofs.YtgopfpjinohncaaGreatDoor
