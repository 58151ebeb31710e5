/- osierref09.SameAtom, Same, over the same: true. Rows, tables, relations and queries compared by the document's code and the law's, at equal ones; walked. -/
import Derived.Test.YtgopfpjinohncaaGreatDoorGmL
import Derived.Test.YtgopfpjinohncaaGreatDoorGcL
import Derived.Test.YtgopfpjinohncaaGreatDoorRaL
import Derived.Test.YtgopfpjinohncaaGreatDoorKfL
import Derived.Test.YtgopfpjinohncaaGreatDoorSkgZL
import Derived.Deep.RegionLaw
namespace Go.Proofs.YtgopfpjinohncaaGreatDoor
open Go.RowKit
set_option linter.unusedVariables false
set_option maxHeartbeats 1000000 in
theorem equal_term (d:Nat) (a b:Trm) (w:World):(Op.equalIn (d+3) 113 (.agg a.cells.toArray) (.agg b.cells.toArray)).run Tryz.prog w=.ok (decide (a=b)) w:=by
 have hf:(Tryz.prog.fieldsOf 113).toList.map f3=[("Var",9,0),("Const",111,1)]:=by kernel_rfl
 have p1:∀ (a b c d:Value) w,(part 9 #[a,b,c,d] 0).run Tryz.prog w=.ok a w:=fun _ _ _ _ _=>by kernel_rfl
 have p2:∀ (a b c d:Value) w,(part 111 #[a,b,c,d] 1).run Tryz.prog w=.ok (.agg #[b,c,d]) w:=fun _ _ _ _ _=>by kernel_rfl
 rw[run_equalIn_agg w (d+2) _ _ _ (by kernel_rfl) (by kernel_rfl),eqF_of,hf]
 have e1:=fun (x y:ByteArray) (w:World)=>run_equalIn_string (P:=Tryz.prog) w (d+1) 9 x y Tryz.underlying9
 have e2:=fun (v u:Vl) (w:World)=>equal_value d v u w
 obtain⟨x,k,n,t⟩:=a
 obtain⟨x',k',n',t'⟩:=b
 have e3:=fun (w:World)=>e2 ⟨k,n,t⟩ ⟨k',n',t'⟩ w
 simp only[Vl.cells] at e3
 simp only[Trm.cells,eqF,Sem.run_bind,Sem.run_ite,p1,p2,Result.andThen_ok]
 by_cases h1:x=x'<;>by_cases h2:(⟨k,n,t⟩:Vl)=⟨k',n',t'⟩<;>simp [h1,h2,e1,e3,Trm.mk.injEq]<;>simp_all
theorem neq_term (a b:Trm) (w:World):(binOp .neq 113 (.agg a.cells.toArray) (.agg b.cells.toArray)).run Tryz.prog w=.ok (.bool (!decide (a=b))) w:=by
 rw[run_neq_struct,equal_term 9997]
 rfl
set_option maxHeartbeats 4000000 in
set_option maxRecDepth 100000 in
theorem sameAtom_any (w:World) (rel:ByteArray) (va vb:Value) (ts:List Trm) (ha:RowAt w va 4 (ts.map Trm.cells)) (hb:RowAt w vb 4 (ts.map Trm.cells)) :
 Calls Tryz.prog 75 #[.agg #[.string rel,va],.agg #[.string rel,vb]] w fun e w'=>e=.returned (.bool true)/\Below w.heap.size w w':=by
 obtain⟨aa,ac,rfl,hac,ham⟩:=ha.form
 obtain⟨ba,bc,rfl,hbc,hbm⟩:=hb.form
 have hneq:∀ (x:List UInt8) (k n:Int) (t:List UInt8) (w:World),(binOp .neq 113 (.agg #[.string ⟨x.toArray⟩,.int .i64 k,.int .i64 n,.string ⟨t.toArray⟩]) (.agg #[.string ⟨x.toArray⟩,.int .i64 k,.int .i64 n,.string ⟨t.toArray⟩])).run Tryz.prog w=.ok (.bool false) w:=fun x k n t w=>by
  have:=neq_term ⟨x,k,n,t⟩ ⟨x,k,n,t⟩ w
  simpa [Trm.cells] using this
 have hla:=ha.len
 unfold maxLen at ham hbm
 have HA:=Lib.hid ha
 have HB:=Lib.hid hb
 simp only[List.length_map] at hac hbc hla ⊢
 generalize hN:ts.length=n at *
 have HN:=Lib.hid hN
 clear ha hb hN
 go_enter Tryz.func75,Tryz.ntmps75
 go_wp2_with fail
 go_loopw [5] (fun i wr=>∃ k:Nat,k<=n/\i=.int .i64 k/\Hid (Blk wr w.heap.size 105 #[.string rel,.slice aa n ac])/\Hid (Blk wr (w.heap.size+1) 105 #[.string rel,.slice ba n bc])/\Hid (Below w.heap.size w wr)) (fun i _=>n - (intOf i).toNat)
 case atStart=>exact⟨0,Nat.zero_le _,rfl,Lib.hid ((Blk.new _ _ _).alloc _),Lib.hid (blkNew1 _ _ _ _),Lib.hid (balloc (balloc (Below.refl _ _) _) _)⟩
 case round =>
  obtain⟨k,hk,rfl,XA,XB,BW⟩:=hrel
  have a1:=XA.out.cell 1
  have b1:=XB.out.cell 1
  simp only[List.getElem?_toArray,List.getElem?_cons_zero,List.getElem?_cons_succ] at a1 b1
  have hal:=XA.out.lt
  have hbl:=XB.out.lt
  by_cases hlt:k<n
  ·obtain⟨t,ht⟩:∃ t,ts[k]? = some t:=⟨ts[k]'(by rw[HN.out];exact hlt),List.getElem?_eq_getElem (by rw[HN.out];exact hlt)⟩
   obtain⟨g1,o1,c1,hv1,_,_,hgl1,k1⟩:=(HA.out.keep BW.out).get (i:=k) (x:=t.cells) (by simp [ht])
   obtain⟨g2,o2,c2,hv2,_,_,hgl2,k2⟩:=(HB.out.keep BW.out).get (i:=k) (x:=t.cells) (by simp [ht])
   simp only[List.length_map,HN.out,Value.slice.injEq,true_and] at hv1 hv2
   obtain⟨rfl,rfl⟩:=hv1
   obtain⟨rfl,rfl⟩:=hv2
   have p0:=k1 0 _ rfl
   have p1:=k1 1 _ rfl
   have p2:=k1 2 _ rfl
   have p3:=k1 3 _ rfl
   have r0:=k2 0 _ rfl
   have r1:=k2 1 _ rfl
   have r2:=k2 2 _ rfl
   have r3:=k2 3 _ rfl
   simp only[Nat.add_zero] at p0 r0
   have hd:decide ((k:Int)<0)=false:=by simp
   have hd2:decide ((n:Int)<=(k:Int))=false:=by simp;omega
   clear k1 k2 ht
   go_wp2_with fail
   go_quiet (fail)
   go_wp2_with fail
   go_roundw
   case rel=>exact⟨k+1,by omega,by go_num,Lib.hid (XA.out.drewN _),Lib.hid (XB.out.drewN _),Lib.hid (bdrewN BW.out _)⟩
   case measure=>simp [intOf];omega
  ·obtain rfl:k=n:=by omega
   go_wp2_with fail
   go_ret
   exact⟨rfl,BW.out⟩
set_option maxHeartbeats 3000000 in
set_option maxRecDepth 100000 in
theorem same_any (w:World) (name:ByteArray) (ha hb va vb:Value) (hd:List (List UInt8)) (al:List Atm) (h1:StrsAt w ha hd) (h2:StrsAt w hb hd) (h3:AtomsAt w va al) (h4:AtomsAt w vb al) :
 Calls Tryz.prog 25 #[.agg #[.string name,ha,va],.agg #[.string name,hb,vb]] w fun e w'=>e=.returned (.bool true)/\Below w.heap.size w w':=by
 obtain⟨aa,ac,rfl,hac,ham⟩:=h3.form
 obtain⟨ba,bc,rfl,hbc,hbm⟩:=h4.form
 obtain⟨ra,rows,hrows⟩:=h3
 obtain⟨h1a,h1c,rfl,_,_⟩:=h1.form
 obtain⟨h2a,h2c,rfl,_,_⟩:=h2.form
 unfold maxLen at ham hbm
 have hal0:=ra
 have HA:Hid (AtomsAt w (.slice aa al.length ac) al):=Lib.hid ⟨_,rows,hrows⟩
 have HB:=Lib.hid h4
 have b0:Below w.heap.size w ((w.alloc (.cells #[.string name,.slice h1a hd.length h1c,.slice aa al.length ac] 50)).alloc (.cells #[.string name,.slice h2a hd.length h2c,.slice ba al.length bc] 50)):=balloc (balloc (Below.refl _ _) _) _
 have hst:=sameTexts_any _ _ _ hd hd (h1.keep b0) (h2.keep b0)
 rw[decide_eq_true rfl] at hst
 have HST:=Lib.hid hst
 have B0:=Lib.hid b0
 have XA0:=Lib.hid ((Blk.new w 50 #[.string name,.slice h1a hd.length h1c,.slice aa al.length ac]).alloc (.cells #[.string name,.slice h2a hd.length h2c,.slice ba al.length bc] 50))
 have XB0:=Lib.hid (blkNew1 w (.cells #[.string name,.slice h1a hd.length h1c,.slice aa al.length ac] 50) 50 #[.string name,.slice h2a hd.length h2c,.slice ba al.length bc])
 generalize hN:al.length=n at *
 have HN:=Lib.hid hN
 clear h1 h2 h4 hst b0 rows hrows hN hal0 ra
 go_enter Tryz.func25,Tryz.ntmps25
 go_wp2_with fail
 refine HST.out.mono ?_
 rintro e w1 ⟨rfl,hb1⟩
 have XA1:=Lib.hid (XA0.out.below hb1 (by simp<;>omega))
 have XB1:=Lib.hid (XB0.out.below hb1 (by simp<;>omega))
 have B1:=Lib.hid (B0.out.trans (hb1.mono (by simp<;>omega)))
 have a2:=XA1.out.cell 2
 have b2:=XB1.out.cell 2
 simp only[List.getElem?_toArray,List.getElem?_cons_zero,List.getElem?_cons_succ] at a2 b2
 have hal:=XA1.out.lt
 have hbl:=XB1.out.lt
 clear hb1
 go_wp2_with fail
 go_loopw [5] (fun i wr=>∃ k:Nat,k<=n/\i=.int .i64 k/\Hid (Blk wr w.heap.size 50 #[.string name,.slice h1a hd.length h1c,.slice aa n ac])/\Hid (Blk wr (w.heap.size+1) 50 #[.string name,.slice h2a hd.length h2c,.slice ba n bc])/\Hid (Below w.heap.size w wr)) (fun i _=>n - (intOf i).toNat)
 case atStart=>exact⟨0,Nat.zero_le _,rfl,XA1,XB1,B1⟩
 case round =>
  obtain⟨k,hk,rfl,XA,XB,BW⟩:=hrel
  have a2:=XA.out.cell 2
  have b2:=XB.out.cell 2
  simp only[List.getElem?_toArray,List.getElem?_cons_zero,List.getElem?_cons_succ] at a2 b2
  have hal:=XA.out.lt
  have hbl:=XB.out.lt
  by_cases hlt:k<n
  ·obtain⟨a,ha⟩:∃ a,al[k]? = some a:=⟨al[k]'(by rw[HN.out];exact hlt),List.getElem?_eq_getElem (by rw[HN.out];exact hlt)⟩
   obtain⟨g1,o1,c1,t1,hv1,_,_,hgl1,p0,p1,hr1,_⟩:=(HA.out.keep BW.out).get ha
   obtain⟨g2,o2,c2,t2,hv2,_,_,hgl2,r0,r1,hr2,_⟩:=(HB.out.keep BW.out).get ha
   rw[HN.out] at hv1 hv2
   simp only[Value.slice.injEq,true_and] at hv1 hv2
   obtain⟨rfl,rfl⟩:=hv1
   obtain⟨rfl,rfl⟩:=hv2
   obtain⟨t1a,t1c,rfl,_,_⟩:=hr1.form
   obtain⟨t2a,t2c,rfl,_,_⟩:=hr2.form
   have hd:decide ((k:Int)<0)=false:=by simp
   have hd2:decide ((n:Int)<=(k:Int))=false:=by simp;omega
   simp only[List.length_map] at p1 r1 hr1 hr2
   have HSA:=Lib.hid (sameAtom_any wr.drew ⟨a.rel.toArray⟩ _ _ a.ts (hr1.keep (bdrew (Below.refl _ _))) (hr2.keep (bdrew (Below.refl _ _))))
   clear ha hr1 hr2
   go_wp2_with fail
   go_region_law (go_simp;go_at_call 75;refine HSA.out.mono ?_;rintro e w6 ⟨rfl,hb6⟩)
   all_goals
    have XA6:=Lib.hid (XA.out.drew.below hb6 hal)
    have XB6:=Lib.hid (XB.out.drew.below hb6 hbl)
    have B6:=Lib.hid ((bdrew BW.out).trans (hb6.mono (by have:=BW.out.size;simpa using this)))
    clear hb6
    go_wp2_with fail
    go_roundw
    case rel=>exact⟨k+1,by omega,by go_num,XA6,XB6,B6⟩
    case measure=>simp [intOf];omega
  ·obtain rfl:k=n:=by omega
   go_wp2_with fail
   go_ret
   exact⟨rfl,BW.out⟩
set_option maxHeartbeats 4000000 in
set_option maxRecDepth 100000 in
theorem sameRows_any (w:World) (va vb:Value) (l:List (List Vl)) (ha:RowsAt w va l) (hb:RowsAt w vb l) :
 Calls Tryz.prog 101 #[va,vb] w fun e w'=>e=.returned (.bool true)/\Below w.heap.size w w':=by
 obtain⟨aa,ac,rfl,hac,ham⟩:=ha.form
 obtain⟨ba,bc,rfl,hbc,hbm⟩:=hb.form
 unfold maxLen at ham hbm
 have HA:=Lib.hid ha
 have HB:=Lib.hid hb
 generalize hN:l.length=n at *
 have HN:=Lib.hid hN
 clear ha hb hN
 go_enter Tryz.func101,Tryz.ntmps101
 go_wp2_with fail
 go_loopw [5] (fun i wr=>∃ k:Nat,k<=n/\i=.int .i64 k/\Hid (Below w.heap.size w wr)) (fun i _=>n - (intOf i).toNat)
 case atStart=>exact⟨0,Nat.zero_le _,rfl,Lib.hid (Below.refl _ _)⟩
 case round =>
  obtain⟨k,hk,rfl,BW⟩:=hrel
  by_cases hlt:k<n
  ·obtain⟨c,hc⟩:∃ c,l[k]? = some c:=⟨l[k]'(by rw[HN.out];exact hlt),List.getElem?_eq_getElem (by rw[HN.out];exact hlt)⟩
   obtain⟨g1,o1,c1,x1,hv1,_,_,hgl1,p0,hr1,_⟩:=(HA.out.keep BW.out).get hc
   obtain⟨g2,o2,c2,x2,hv2,_,_,hgl2,r0,hr2,_⟩:=(HB.out.keep BW.out).get hc
   rw[HN.out] at hv1 hv2
   simp only[Value.slice.injEq,true_and] at hv1 hv2
   obtain⟨rfl,rfl⟩:=hv1
   obtain⟨rfl,rfl⟩:=hv2
   simp only[Nat.mul_one] at p0 r0
   have hd:decide ((k:Int)<0)=false:=by simp
   have hd2:decide ((n:Int)<=(k:Int))=false:=by simp;omega
   have hsr:=sameRow_any wr.drew x1 x2 c c (hr1.keep (bdrew (Below.refl _ _))) (hr2.keep (bdrew (Below.refl _ _)))
   rw[show sameV c c=true from decide_eq_true rfl] at hsr
   have HSR:=Lib.hid hsr
   obtain⟨e1,f1,rfl,_,_⟩:=hr1.form
   obtain⟨e2,f2,rfl,_,_⟩:=hr2.form
   clear hc hr1 hr2 hsr
   generalize (List.map Vl.cells c).length=cn at p0 r0 HSR
   go_wp2_with fail
   go_region_law (go_simp;go_at_call 178;refine HSR.out.mono ?_;rintro e w6 ⟨rfl,hb6⟩)
   all_goals
    have B6:=Lib.hid ((bdrew BW.out).trans (hb6.mono (by have:=BW.out.size;simpa using this)))
    clear hb6
    go_wp2_with fail
    go_roundw
    case rel=>exact⟨k+1,by omega,by go_num,B6⟩
    case measure=>simp [intOf];omega
  ·obtain rfl:k=n:=by omega
   go_wp2_with fail
   go_ret
   exact⟨rfl,BW.out⟩
set_option maxHeartbeats 4000000 in
set_option maxRecDepth 100000 in
theorem sameTbls_any (w:World) (va vb:Value) (l:List Tbl) (ha:TblsAt w va l) (hb:TblsAt w vb l) :
 Calls Tryz.prog 39 #[va,vb] w fun e w'=>e=.returned (.bool true)/\Below w.heap.size w w':=by
 obtain⟨aa,ac,rfl,hac,ham⟩:=ha.form
 obtain⟨ba,bc,rfl,hbc,hbm⟩:=hb.form
 unfold maxLen at ham hbm
 have HA:=Lib.hid ha
 have HB:=Lib.hid hb
 generalize hN:l.length=n at *
 have HN:=Lib.hid hN
 clear ha hb hN
 go_enter Tryz.func39,Tryz.ntmps39
 go_wp2_with fail
 go_loopw [5] (fun i wr=>∃ k:Nat,k<=n/\i=.int .i64 k/\Hid (Below w.heap.size w wr)) (fun i _=>n - (intOf i).toNat)
 case atStart=>exact⟨0,Nat.zero_le _,rfl,Lib.hid (Below.refl _ _)⟩
 case round =>
  obtain⟨k,hk,rfl,BW⟩:=hrel
  by_cases hlt:k<n
  ·obtain⟨c,hc⟩:∃ c,l[k]? = some c:=⟨l[k]'(by rw[HN.out];exact hlt),List.getElem?_eq_getElem (by rw[HN.out];exact hlt)⟩
   obtain⟨g1,o1,c1,x1,hv1,_,_,hgl1,p0,p1,hr1⟩:=(HA.out.keep BW.out).get hc
   obtain⟨g2,o2,c2,x2,hv2,_,_,hgl2,r0,r1,hr2⟩:=(HB.out.keep BW.out).get hc
   rw[HN.out] at hv1 hv2
   simp only[Value.slice.injEq,true_and] at hv1 hv2
   obtain⟨rfl,rfl⟩:=hv1
   obtain⟨rfl,rfl⟩:=hv2
   have hd:decide ((k:Int)<0)=false:=by simp
   have hd2:decide ((n:Int)<=(k:Int))=false:=by simp;omega
   have HSR:=Lib.hid (sameRows_any wr.drew x1 x2 c.rows (hr1.keep (bdrew (Below.refl _ _))) (hr2.keep (bdrew (Below.refl _ _))))
   obtain⟨e1,f1,rfl,_,_⟩:=hr1.form
   obtain⟨e2,f2,rfl,_,_⟩:=hr2.form
   clear hc hr1 hr2
   generalize c.rows.length=cn at p1 r1 HSR
   go_wp2_with fail
   obtain⟨SS,hSS⟩:∃ SS:World->Prop,SS=fun W=>W.cell? ⟨g1,o1+k * 2,none⟩=some (.string ⟨c.rel.toArray⟩)/\W.cell? ⟨g1,o1+k * 2+1,none⟩=some (.slice e1 cn f1)/\W.cell? ⟨g2,o2+k * 2,none⟩=some (.string ⟨c.rel.toArray⟩)/\W.cell? ⟨g2,o2+k * 2+1,none⟩=some (.slice e2 cn f2)/\g1<W.heap.size/\g2<W.heap.size:=⟨_,rfl⟩
   have HSC:=Lib.hid (fun W (q:SS W)=>(by rw[hSS] at q;exact q:W.cell? ⟨g1,o1+k * 2,none⟩=some (.string ⟨c.rel.toArray⟩)/\W.cell? ⟨g1,o1+k * 2+1,none⟩=some (.slice e1 cn f1)/\W.cell? ⟨g2,o2+k * 2,none⟩=some (.string ⟨c.rel.toArray⟩)/\W.cell? ⟨g2,o2+k * 2+1,none⟩=some (.slice e2 cn f2)/\g1<W.heap.size/\g2<W.heap.size))
   have HSI:=Lib.hid (fun W (q:W.cell? ⟨g1,o1+k * 2,none⟩=some (.string ⟨c.rel.toArray⟩)/\W.cell? ⟨g1,o1+k * 2+1,none⟩=some (.slice e1 cn f1)/\W.cell? ⟨g2,o2+k * 2,none⟩=some (.string ⟨c.rel.toArray⟩)/\W.cell? ⟨g2,o2+k * 2+1,none⟩=some (.slice e2 cn f2)/\g1<W.heap.size/\g2<W.heap.size)=>(by rw[hSS];exact q:SS W))
   clear hSS
   have HSS:SS wr.drew:=HSI.out _ (⟨p0,p1,r0,r1,hgl1,hgl2⟩)
   refine wp_region_held_drew (by kernel_rfl) HSS (fun _=>?_)
   refine Held.tk 0 17 HSS ?_
   refine Held.tk 1 18 HSS ?_
   refine Held.tk 2 19 HSS ?_
   refine Held.tk 3 20 HSS ?_
   refine Held.tk 4 21 HSS ?_
   refine Held.tk 5 22 HSS ?_
   refine Held.on 6 (fun K hK=>?_)
   go_simp
   refine hK.out _ _ HSS ?_
   clear hK K
   try simp only[List.setIfInBounds_toArray,List.set_cons_succ,List.set_cons_zero]
   refine Held.on 7 (fun K hK=>?_)
   go_simp
   refine hK.out _ _ HSS ?_
   clear hK K
   try simp only[List.setIfInBounds_toArray,List.set_cons_succ,List.set_cons_zero]
   refine Held.on 8 (fun K hK=>?_)
   go_simp
   refine hK.out _ _ HSS ?_
   clear hK K
   try simp only[List.setIfInBounds_toArray,List.set_cons_succ,List.set_cons_zero]
   refine Held.on 9 (fun K hK=>?_)
   have q:=HSC.out _ HSS
   repeat (obtain⟨_,q⟩:=q)
   go_simp
   refine hK.out _ _ HSS ?_
   clear hK K
   clear q
   try simp only[List.setIfInBounds_toArray,List.set_cons_succ,List.set_cons_zero]
   refine Held.on 10 (fun K hK=>?_)
   go_simp
   refine hK.out _ _ HSS ?_
   clear hK K
   try simp only[List.setIfInBounds_toArray,List.set_cons_succ,List.set_cons_zero]
   refine Held.tk 11 28 HSS ?_
   refine Held.tk 12 29 HSS ?_
   refine Held.tk 13 30 HSS ?_
   refine Held.tk 14 31 HSS ?_
   refine Held.tk 15 32 HSS ?_
   refine Held.tk 16 33 HSS ?_
   refine Held.tk 17 34 HSS ?_
   refine Held.on 18 (fun K hK=>?_)
   go_simp
   refine hK.out _ _ HSS ?_
   clear hK K
   try simp only[List.setIfInBounds_toArray,List.set_cons_succ,List.set_cons_zero]
   refine Held.on 19 (fun K hK=>?_)
   go_simp
   refine hK.out _ _ HSS ?_
   clear hK K
   try simp only[List.setIfInBounds_toArray,List.set_cons_succ,List.set_cons_zero]
   refine Held.on 20 (fun K hK=>?_)
   go_simp
   refine hK.out _ _ HSS ?_
   clear hK K
   try simp only[List.setIfInBounds_toArray,List.set_cons_succ,List.set_cons_zero]
   refine Held.tk 21 38 HSS ?_
   refine Held.on 22 (fun K hK=>?_)
   go_simp
   refine HSR.out.mono ?_
   rintro e w6 ⟨rfl,hb6⟩
   have B6:=Lib.hid ((bdrew BW.out).trans (hb6.mono (by have:=BW.out.size;simpa using this)))
   clear HSS
   have hb7:=Lib.hid hb6
   have HSS:SS w6:=HSI.out _ ⟨(hb7.out.cell (show g1<wr.drew.heap.size from hgl1)).trans p0,(hb7.out.cell (show g1<wr.drew.heap.size from hgl1)).trans p1,(hb7.out.cell (show g2<wr.drew.heap.size from hgl2)).trans r0,(hb7.out.cell (show g2<wr.drew.heap.size from hgl2)).trans r1,Nat.lt_of_lt_of_le hgl1 hb7.out.size,Nat.lt_of_lt_of_le hgl2 hb7.out.size⟩
   refine hK.out _ _ HSS ?_
   clear hK K hb6 hb7
   try simp only[List.setIfInBounds_toArray,List.set_cons_succ,List.set_cons_zero]
   refine Held.tk 23 40 HSS ?_
   refine Held.tk 24 41 HSS ?_
   refine wpAnyH_done (by kernel_rfl) ?_ _
   clear HSS HSC HSI p0 p1 r0 r1
   go_wp2_with fail
   go_roundw
   case rel=>exact⟨k+1,by omega,by go_num,B6⟩
   case measure=>simp [intOf];omega
  ·obtain rfl:k=n:=by omega
   go_wp2_with fail
   go_ret
   exact⟨rfl,BW.out⟩
set_option maxHeartbeats 8000000 in
set_option maxRecDepth 100000 in
theorem sameAll26_any (w:World) (ra rb ta tb qa qb:Value) (rels:List Rln) (data:List Tbl) (qs:List Qry) (hR1:RelsAt w ra rels) (hR2:RelsAt w rb rels) (hT1:TblsAt w ta data) (hT2:TblsAt w tb data) (hQ1:QrysAt w qa qs) (hQ2:QrysAt w qb qs) :
 Calls Tryz.prog 16 #[ra,rb,ta,tb,qa,qb] w fun e w'=>e=.returned (.bool true)/\Below w.heap.size w w':=by
 have hst:=sameTbls_any w ta tb data hT1 hT2
 obtain⟨a1,c1,rfl,hn1,hm1⟩:=hR1.form
 obtain⟨a2,c2,rfl,hn2,hm2⟩:=hR2.form
 obtain⟨a3,c3,rfl,hn3,hm3⟩:=hT1.form
 obtain⟨a4,c4,rfl,hn4,hm4⟩:=hT2.form
 obtain⟨a5,c5,rfl,hn5,hm5⟩:=hQ1.form
 obtain⟨a6,c6,rfl,hn6,hm6⟩:=hQ2.form
 unfold maxLen at hm1 hm2 hm5 hm6
 have HST:=Lib.hid hst
 have HR1:=Lib.hid hR1
 have HR2:=Lib.hid hR2
 have HQ1:=Lib.hid hQ1
 have HQ2:=Lib.hid hQ2
 clear hst hR1 hR2 hT1 hT2 hQ1 hQ2 hn3 hm3 hn4 hm4
 generalize hN:rels.length=n at *
 generalize hM:qs.length=m at *
 have HN:=Lib.hid hN
 have HM:=Lib.hid hM
 clear hN hM
 go_enter Tryz.func16,Tryz.ntmps16
 go_wp2_with fail
 refine HST.out.mono ?_
 rintro e w1 ⟨rfl,hb1⟩
 have B1:=Lib.hid hb1
 clear hb1 HST
 go_wp2_with fail
 go_loopw [35] (fun i wr=>∃ k:Nat,k<=n/\i=.int .i64 k/\Hid (Below w.heap.size w wr)) (fun i _=>n - (intOf i).toNat)
 case atStart=>exact⟨0,Nat.zero_le _,rfl,B1⟩
 case round =>
  obtain⟨k,hk,rfl,BW⟩:=hrel
  by_cases hlt:k<n
  ·obtain⟨c,hc⟩:∃ c,rels[k]? = some c:=⟨rels[k]'(by rw[HN.out];exact hlt),List.getElem?_eq_getElem (by rw[HN.out];exact hlt)⟩
   obtain⟨g1,o1,d1,x1,hv1,_,_,hgl1,p0,p1,hr1,_⟩:=(HR1.out.keep BW.out).get hc
   obtain⟨g2,o2,d2,x2,hv2,_,_,hgl2,r0,r1,hr2,_⟩:=(HR2.out.keep BW.out).get hc
   rw[HN.out] at hv1 hv2
   simp only[Value.slice.injEq,true_and] at hv1 hv2
   obtain⟨rfl,rfl⟩:=hv1
   obtain⟨rfl,rfl⟩:=hv2
   have hd:decide ((k:Int)<0)=false:=by simp
   have hd2:decide ((n:Int)<=(k:Int))=false:=by simp;omega
   have HSR:=Lib.hid (sameRel_any wr.drew ⟨c.name.toArray⟩ x1 x2 c.cols (RowAt.keep hr1 (bdrew (Below.refl _ _))) (RowAt.keep hr2 (bdrew (Below.refl _ _))))
   obtain⟨e1,f1,rfl,_,_⟩:=RowAt.form hr1
   obtain⟨e2,f2,rfl,_,_⟩:=RowAt.form hr2
   clear hc hr1 hr2
   generalize (List.map Col.cells c.cols).length=cn at p1 r1 HSR
   generalize (⟨c.name.toArray⟩:ByteArray)=cx at p0 r0 HSR
   go_wp2_with fail
   go_region_law (go_simp;go_at_call 24;refine HSR.out.mono ?_;rintro e w6 ⟨rfl,hb6⟩)
   all_goals
    have B6:=Lib.hid ((bdrew BW.out).trans (hb6.mono (by have:=BW.out.size;simpa using this)))
    clear hb6
    go_wp2_with fail
    go_roundw
    case rel=>exact⟨k+1,by omega,by go_num,B6⟩
    case measure=>simp [intOf];omega
  ·obtain rfl:k=n:=by omega
   go_wp2_with fail
   go_loopw [51] (fun i wr=>∃ k:Nat,k<=m/\i=.int .i64 k/\Hid (Below w.heap.size w wr)) (fun i _=>m - (intOf i).toNat)
   case atStart=>exact⟨0,Nat.zero_le _,rfl,BW⟩
   case round =>
    obtain⟨j,hj,rfl,BX⟩:=hrel
    by_cases hlj:j<m
    ·obtain⟨c,hc⟩:∃ c,qs[j]? = some c:=⟨qs[j]'(by rw[HM.out];exact hlj),List.getElem?_eq_getElem (by rw[HM.out];exact hlj)⟩
     obtain⟨g1,o1,d1,x1,y1,hv1,_,_,hgl1,p0,p1,p2,hr1,hs1⟩:=(HQ1.out.keep BX.out).get hc
     obtain⟨g2,o2,d2,x2,y2,hv2,_,_,hgl2,r0,r1,r2,hr2,hs2⟩:=(HQ2.out.keep BX.out).get hc
     rw[HM.out] at hv1 hv2
     simp only[Value.slice.injEq,true_and] at hv1 hv2
     obtain⟨rfl,rfl⟩:=hv1
     obtain⟨rfl,rfl⟩:=hv2
     have hd:decide ((j:Int)<0)=false:=by simp
     have hd2:decide ((m:Int)<=(j:Int))=false:=by simp;omega
     have bd:=bdrew (Below.refl wr.heap.size wr)
     have HSR:=Lib.hid (same_any wr.drew ⟨c.name.toArray⟩ x1 x2 y1 y2 c.head c.atoms (RowAt.keep hr1 bd) (RowAt.keep hr2 bd) (hs1.keep bd) (hs2.keep bd))
     obtain⟨e1,f1,rfl,_,_⟩:=RowAt.form hr1
     obtain⟨e2,f2,rfl,_,_⟩:=RowAt.form hr2
     obtain⟨e3,f3,rfl,_,_⟩:=hs1.form
     obtain⟨e4,f4,rfl,_,_⟩:=hs2.form
     clear hc hr1 hr2 hs1 hs2 bd
     generalize (List.map strC c.head).length=cn at p1 r1 HSR
     generalize c.atoms.length=ca at p2 r2 HSR
     generalize (⟨c.name.toArray⟩:ByteArray)=cx at p0 r0 HSR
     go_wp2_with fail
     go_region_law (go_simp;go_at_call 25;refine HSR.out.mono ?_;rintro e w6 ⟨rfl,hb6⟩)
     all_goals
      have B6:=Lib.hid ((bdrew BX.out).trans (hb6.mono (by have:=BX.out.size;simpa using this)))
      clear hb6
      go_wp2_with fail
      go_roundw
      case rel=>exact⟨j+1,by omega,by go_num,B6⟩
      case measure=>simp [intOf];omega
    ·obtain rfl:j=m:=by omega
     go_wp2_with fail
     go_ret
     exact⟨rfl,BX.out⟩
end Go.Proofs.YtgopfpjinohncaaGreatDoor
