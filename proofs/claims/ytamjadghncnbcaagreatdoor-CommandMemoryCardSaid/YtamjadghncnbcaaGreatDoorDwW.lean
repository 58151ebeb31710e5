/- osierref09.SameAtom, Same, over the same: true. osierref10.alike, Same, at equal batches, walked. A command that can be read; osierref25.Same at commands of one content, walked; osierlaw25.of. -/
import Derived.Test.YtamjadghncnbcaaGreatDoorGmW
import Derived.Test.YtamjadghncnbcaaGreatDoorGgW
import Derived.Test.YtamjadghncnbcaaGreatDoorBcW
import Derived.Test.YtamjadghncnbcaaGreatDoorDaW
import Derived.Test.YtamjadghncnbcaaGreatDoorKfW
import Derived.Deep.RegionLaw
import Derived.Deep.RegionHeld3
namespace Go.Proofs.YtamjadghncnbcaaGreatDoor
open Go.RowKit
set_option linter.unusedVariables false
set_option maxHeartbeats 1000000 in
theorem equal_term (d:Nat) (a b:Trm) (w:World):(Op.equalIn (d+3) 71 (.agg a.cells.toArray) (.agg b.cells.toArray)).run Tryz.prog w=.ok (decide (a=b)) w:=by
 have hf:(Tryz.prog.fieldsOf 71).toList.map f3=[("Var",9,0),("Const",69,1)]:=by kernel_rfl
 have p1:∀ (a b c d:Value) w,(part 9 #[a,b,c,d] 0).run Tryz.prog w=.ok a w:=fun _ _ _ _ _=>by kernel_rfl
 have p2:∀ (a b c d:Value) w,(part 69 #[a,b,c,d] 1).run Tryz.prog w=.ok (.agg #[b,c,d]) w:=fun _ _ _ _ _=>by kernel_rfl
 rw[run_equalIn_agg w (d+2) _ _ _ (by kernel_rfl) (by kernel_rfl),eqF_of,hf]
 have e1:=fun (x y:ByteArray) (w:World)=>run_equalIn_string (P:=Tryz.prog) w (d+1) 9 x y Tryz.underlying9
 have e2:=fun (v u:Vl) (w:World)=>equal_value d v u w
 obtain⟨x,k,n,t⟩:=a
 obtain⟨x',k',n',t'⟩:=b
 have e3:=fun (w:World)=>e2 ⟨k,n,t⟩ ⟨k',n',t'⟩ w
 simp only[Vl.cells] at e3
 simp only[Trm.cells,eqF,Sem.run_bind,Sem.run_ite,p1,p2,Result.andThen_ok]
 by_cases h1:x=x'<;>by_cases h2:(⟨k,n,t⟩:Vl)=⟨k',n',t'⟩<;>simp [h1,h2,e1,e3,Trm.mk.injEq]<;>simp_all
theorem neq_term (a b:Trm) (w:World):(binOp .neq 71 (.agg a.cells.toArray) (.agg b.cells.toArray)).run Tryz.prog w=.ok (.bool (!decide (a=b))) w:=by
 rw[run_neq_struct,equal_term 9997]
 rfl
set_option maxHeartbeats 4000000 in
set_option maxRecDepth 100000 in
theorem sameAtom_any (w:World) (rel:ByteArray) (va vb:Value) (ts:List Trm) (ha:RowAt w va 4 (ts.map Trm.cells)) (hb:RowAt w vb 4 (ts.map Trm.cells)) :
 Calls Tryz.prog 94 #[.agg #[.string rel,va],.agg #[.string rel,vb]] w fun e w'=>e=.returned (.bool true)/\Below w.heap.size w w':=by
 obtain⟨aa,ac,rfl,hac,ham⟩:=ha.form
 obtain⟨ba,bc,rfl,hbc,hbm⟩:=hb.form
 have hneq:∀ (x:List UInt8) (k n:Int) (t:List UInt8) (w:World),(binOp .neq 71 (.agg #[.string ⟨x.toArray⟩,.int .i64 k,.int .i64 n,.string ⟨t.toArray⟩]) (.agg #[.string ⟨x.toArray⟩,.int .i64 k,.int .i64 n,.string ⟨t.toArray⟩])).run Tryz.prog w=.ok (.bool false) w:=fun x k n t w=>by
  have:=neq_term ⟨x,k,n,t⟩ ⟨x,k,n,t⟩ w
  simpa [Trm.cells] using this
 have hla:=ha.len
 unfold maxLen at ham hbm
 have HA:=Lib.hid ha
 have HB:=Lib.hid hb
 simp only[List.length_map] at hac hbc hla ⊢
 generalize hN:ts.length=n at *
 have HN:=Lib.hid hN
 clear ha hb hN
 go_enter Tryz.func94,Tryz.ntmps94
 go_wp2_with fail
 go_loopw [5] (fun i wr=>∃ k:Nat,k<=n/\i=.int .i64 k/\Hid (Blk wr w.heap.size 67 #[.string rel,.slice aa n ac])/\Hid (Blk wr (w.heap.size+1) 67 #[.string rel,.slice ba n bc])/\Hid (Below w.heap.size w wr)) (fun i _=>n - (intOf i).toNat)
 case atStart=>exact⟨0,Nat.zero_le _,rfl,Lib.hid ((Blk.new _ _ _).alloc _),Lib.hid (blkNew1 _ _ _ _),Lib.hid (balloc (balloc (Below.refl _ _) _) _)⟩
 case round =>
  obtain⟨k,hk,rfl,XA,XB,BW⟩:=hrel
  have a1:=XA.out.cell 1
  have b1:=XB.out.cell 1
  simp only[List.getElem?_toArray,List.getElem?_cons_zero,List.getElem?_cons_succ] at a1 b1
  have hal:=XA.out.lt
  have hbl:=XB.out.lt
  by_cases hlt:k<n
  ·obtain⟨t,ht⟩:∃ t,ts[k]? = some t:=⟨ts[k]'(by rw[HN.out];exact hlt),List.getElem?_eq_getElem (by rw[HN.out];exact hlt)⟩
   obtain⟨g1,o1,c1,hv1,_,_,hgl1,k1⟩:=(HA.out.keep BW.out).get (i:=k) (x:=t.cells) (by simp [ht])
   obtain⟨g2,o2,c2,hv2,_,_,hgl2,k2⟩:=(HB.out.keep BW.out).get (i:=k) (x:=t.cells) (by simp [ht])
   simp only[List.length_map,HN.out,Value.slice.injEq,true_and] at hv1 hv2
   obtain⟨rfl,rfl⟩:=hv1
   obtain⟨rfl,rfl⟩:=hv2
   have p0:=k1 0 _ rfl
   have p1:=k1 1 _ rfl
   have p2:=k1 2 _ rfl
   have p3:=k1 3 _ rfl
   have r0:=k2 0 _ rfl
   have r1:=k2 1 _ rfl
   have r2:=k2 2 _ rfl
   have r3:=k2 3 _ rfl
   simp only[Nat.add_zero] at p0 r0
   have hd:decide ((k:Int)<0)=false:=by simp
   have hd2:decide ((n:Int)<=(k:Int))=false:=by simp;omega
   clear k1 k2 ht
   go_wp2_with fail
   go_quiet (fail)
   go_wp2_with fail
   go_roundw
   case rel=>exact⟨k+1,by omega,by go_num,Lib.hid (XA.out.drewN _),Lib.hid (XB.out.drewN _),Lib.hid (bdrewN BW.out _)⟩
   case measure=>simp [intOf];omega
  ·obtain rfl:k=n:=by omega
   go_wp2_with fail
   go_ret
   exact⟨rfl,BW.out⟩
set_option maxHeartbeats 3000000 in
set_option maxRecDepth 100000 in
theorem same_any (w:World) (name:ByteArray) (ha hb va vb:Value) (hd:List (List UInt8)) (al:List Atm) (h1:StrsAt w ha hd) (h2:StrsAt w hb hd) (h3:AtomsAt w va al) (h4:AtomsAt w vb al) :
 Calls Tryz.prog 26 #[.agg #[.string name,ha,va],.agg #[.string name,hb,vb]] w fun e w'=>e=.returned (.bool true)/\Below w.heap.size w w':=by
 obtain⟨aa,ac,rfl,hac,ham⟩:=h3.form
 obtain⟨ba,bc,rfl,hbc,hbm⟩:=h4.form
 obtain⟨ra,rows,hrows⟩:=h3
 obtain⟨h1a,h1c,rfl,_,_⟩:=h1.form
 obtain⟨h2a,h2c,rfl,_,_⟩:=h2.form
 unfold maxLen at ham hbm
 have hal0:=ra
 have HA:Hid (AtomsAt w (.slice aa al.length ac) al):=Lib.hid ⟨_,rows,hrows⟩
 have HB:=Lib.hid h4
 have b0:Below w.heap.size w ((w.alloc (.cells #[.string name,.slice h1a hd.length h1c,.slice aa al.length ac] 29)).alloc (.cells #[.string name,.slice h2a hd.length h2c,.slice ba al.length bc] 29)):=balloc (balloc (Below.refl _ _) _) _
 have hst:=sameTexts_any _ _ _ hd hd (h1.keep b0) (h2.keep b0)
 rw[decide_eq_true rfl] at hst
 have HST:=Lib.hid hst
 have B0:=Lib.hid b0
 have XA0:=Lib.hid ((Blk.new w 29 #[.string name,.slice h1a hd.length h1c,.slice aa al.length ac]).alloc (.cells #[.string name,.slice h2a hd.length h2c,.slice ba al.length bc] 29))
 have XB0:=Lib.hid (blkNew1 w (.cells #[.string name,.slice h1a hd.length h1c,.slice aa al.length ac] 29) 29 #[.string name,.slice h2a hd.length h2c,.slice ba al.length bc])
 generalize hN:al.length=n at *
 have HN:=Lib.hid hN
 clear h1 h2 h4 hst b0 rows hrows hN hal0 ra
 go_enter Tryz.func26,Tryz.ntmps26
 go_wp2_with fail
 refine HST.out.mono ?_
 rintro e w1 ⟨rfl,hb1⟩
 have XA1:=Lib.hid (XA0.out.below hb1 (by simp<;>omega))
 have XB1:=Lib.hid (XB0.out.below hb1 (by simp<;>omega))
 have B1:=Lib.hid (B0.out.trans (hb1.mono (by simp<;>omega)))
 have a2:=XA1.out.cell 2
 have b2:=XB1.out.cell 2
 simp only[List.getElem?_toArray,List.getElem?_cons_zero,List.getElem?_cons_succ] at a2 b2
 have hal:=XA1.out.lt
 have hbl:=XB1.out.lt
 clear hb1
 go_wp2_with fail
 go_loopw [5] (fun i wr=>∃ k:Nat,k<=n/\i=.int .i64 k/\Hid (Blk wr w.heap.size 29 #[.string name,.slice h1a hd.length h1c,.slice aa n ac])/\Hid (Blk wr (w.heap.size+1) 29 #[.string name,.slice h2a hd.length h2c,.slice ba n bc])/\Hid (Below w.heap.size w wr)) (fun i _=>n - (intOf i).toNat)
 case atStart=>exact⟨0,Nat.zero_le _,rfl,XA1,XB1,B1⟩
 case round =>
  obtain⟨k,hk,rfl,XA,XB,BW⟩:=hrel
  have a2:=XA.out.cell 2
  have b2:=XB.out.cell 2
  simp only[List.getElem?_toArray,List.getElem?_cons_zero,List.getElem?_cons_succ] at a2 b2
  have hal:=XA.out.lt
  have hbl:=XB.out.lt
  by_cases hlt:k<n
  ·obtain⟨a,ha⟩:∃ a,al[k]? = some a:=⟨al[k]'(by rw[HN.out];exact hlt),List.getElem?_eq_getElem (by rw[HN.out];exact hlt)⟩
   obtain⟨g1,o1,c1,t1,hv1,_,_,hgl1,p0,p1,hr1,_⟩:=(HA.out.keep BW.out).get ha
   obtain⟨g2,o2,c2,t2,hv2,_,_,hgl2,r0,r1,hr2,_⟩:=(HB.out.keep BW.out).get ha
   rw[HN.out] at hv1 hv2
   simp only[Value.slice.injEq,true_and] at hv1 hv2
   obtain⟨rfl,rfl⟩:=hv1
   obtain⟨rfl,rfl⟩:=hv2
   obtain⟨t1a,t1c,rfl,_,_⟩:=hr1.form
   obtain⟨t2a,t2c,rfl,_,_⟩:=hr2.form
   have hd:decide ((k:Int)<0)=false:=by simp
   have hd2:decide ((n:Int)<=(k:Int))=false:=by simp;omega
   simp only[List.length_map] at p1 r1 hr1 hr2
   have HSA:=Lib.hid (sameAtom_any wr.drew ⟨a.rel.toArray⟩ _ _ a.ts (hr1.keep (bdrew (Below.refl _ _))) (hr2.keep (bdrew (Below.refl _ _))))
   clear ha hr1 hr2
   go_wp2_with fail
   go_region_law (go_simp;go_at_call 94;refine HSA.out.mono ?_;rintro e w6 ⟨rfl,hb6⟩)
   all_goals
    have XA6:=Lib.hid (XA.out.drew.below hb6 hal)
    have XB6:=Lib.hid (XB.out.drew.below hb6 hbl)
    have B6:=Lib.hid ((bdrew BW.out).trans (hb6.mono (by have:=BW.out.size;simpa using this)))
    clear hb6
    go_wp2_with fail
    go_roundw
    case rel=>exact⟨k+1,by omega,by go_num,XA6,XB6,B6⟩
    case measure=>simp [intOf];omega
  ·obtain rfl:k=n:=by omega
   go_wp2_with fail
   go_ret
   exact⟨rfl,BW.out⟩
theorem sameV_self (a:List Vl):sameV a a=true:=by
 unfold sameV
 exact decide_eq_true rfl
set_option maxHeartbeats 4000000 in
set_option maxRecDepth 100000 in
theorem alike_any (w:World) (c:Chg) (rv ru:Value) (h:RowAt w rv 3 (c.row.map Vl.cells)) (h2:RowAt w ru 3 (c.row.map Vl.cells)) :
 Calls Tryz.prog 99 #[.agg #[.bool c.add,.string ⟨c.rel.toArray⟩,rv],.agg #[.bool c.add,.string ⟨c.rel.toArray⟩,ru]] w fun e w'=>e=.returned (.bool true)/\Below w.heap.size w w':=by
 have hb0:Below w.heap.size w ((w.alloc (.cells #[.bool c.add,.string ⟨c.rel.toArray⟩,rv] 51)).alloc (.cells #[.bool c.add,.string ⟨c.rel.toArray⟩,ru] 51)):=balloc (balloc (Below.refl _ _) _) _
 have hsm:=sameRow_any _ rv ru c.row c.row (h.keep hb0) (h2.keep hb0)
 rw[sameV_self] at hsm
 obtain⟨ra,rc,rfl,_,_⟩:=h.form
 obtain⟨ua,uc,rfl,_,_⟩:=h2.form
 have HSM:=Lib.hid hsm
 have HB0:=Lib.hid hb0
 clear h h2 hsm hb0
 generalize (c.row.map Vl.cells).length=n at *
 generalize c.add=ad at *
 generalize c.rel=nm at *
 go_enter Tryz.func99,Tryz.ntmps99
 go_wp2_with fail
 refine HSM.out.mono ?_
 rintro e w6 ⟨rfl,hb6⟩
 have HB6:=Lib.hid (HB0.out.trans (hb6.mono HB0.out.size))
 clear hb6
 go_wp2_with fail
 go_ret
 exact⟨rfl,HB6.out⟩
def KC (p q:Addr) (c:Chg) (rv ru:Value) (W0 W:World):Prop :=
 W.cell? p=some (.bool c.add)/\W.cell? ⟨p.block,p.off+1,none⟩=some (.string ⟨c.rel.toArray⟩)/\W.cell? ⟨p.block,p.off+2,none⟩=some rv /\
 W.cell? q=some (.bool c.add)/\W.cell? ⟨q.block,q.off+1,none⟩=some (.string ⟨c.rel.toArray⟩)/\W.cell? ⟨q.block,q.off+2,none⟩=some ru/\Below W0.heap.size W0 W
theorem KC.step {p q:Addr} {c:Chg} {rv ru:Value} {W0 W W':World} (h:KC p q c rv ru W0 W) (h1:p.block<W0.heap.size) (h2:q.block<W0.heap.size) (hb:Below W.heap.size W W'):KC p q c rv ru W0 W':=by
 obtain⟨k0,k1,k2,k3,k4,k5,k6⟩:=h
 have hz:=k6.size
 exact⟨(hb.cell (by omega)).trans k0,(hb.cell (p:=⟨p.block,p.off+1,none⟩) (by simp only;omega)).trans k1,(hb.cell (p:=⟨p.block,p.off+2,none⟩) (by simp only;omega)).trans k2,(hb.cell (by omega)).trans k3,(hb.cell (p:=⟨q.block,q.off+1,none⟩) (by simp only;omega)).trans k4,(hb.cell (p:=⟨q.block,q.off+2,none⟩) (by simp only;omega)).trans k5,k6.trans (hb.mono hz)⟩
set_option maxHeartbeats 8000000 in
set_option maxRecDepth 100000 in
theorem sameChgs_any (w:World) (va vb:Value) (l:List Chg) (ha:ChgsAt w va l) (hb:ChgsAt w vb l) :
 Calls Tryz.prog 28 #[va,vb] w fun e w'=>e=.returned (.bool true)/\Below w.heap.size w w':=by
 have hnot:∀ (x:Bool) (w:World),(Op.unary .not (.bool x)).run Tryz.prog w=.ok (.bool (!x)) w:=fun _ _=>rfl
 obtain⟨aa,ac,rfl,hac,ham⟩:=ha.form
 obtain⟨ba,bc,rfl,hbc,hbm⟩:=hb.form
 have hla:=ha.len
 unfold maxLen at ham hbm
 have HA:=Lib.hid ha
 have HB:=Lib.hid hb
 clear ha hb
 generalize hN:l.length=n at *
 have HN:=Lib.hid hN
 clear hN
 have hnn:((n:Int) != (n:Int))=false:=by simp
 go_enter Tryz.func28,Tryz.ntmps28
 go_wp2_with fail
 go_loopw [5] (fun i wr=>∃ k:Nat,k<=n/\i=.int .i64 k/\Hid (Below w.heap.size w wr)) (fun i _=>n - (intOf i).toNat)
 case atStart=>exact⟨0,Nat.zero_le _,rfl,Lib.hid (Below.refl _ _)⟩
 case round =>
  obtain⟨k,hk,rfl,BW⟩:=hrel
  obtain⟨wo,rfl⟩:∃ wo:World,wo=wr:=⟨_,rfl⟩
  by_cases hlt:k<n
  ·obtain⟨c,hc⟩:∃ c,l[k]? = some c:=⟨l[k]'(by rw[HN.out];exact hlt),List.getElem?_eq_getElem (by rw[HN.out];exact hlt)⟩
   obtain⟨b1,o1,c1,rv,hv1,_,_,hl1,q0,q1,q2,hr1,_⟩:=(HA.out.keep BW.out).get hc
   obtain⟨b2,o2,c2,ru,hv2,_,_,hl2,p0,p1,p2,hr2,_⟩:=(HB.out.keep BW.out).get hc
   rw[HN.out] at hv1 hv2
   simp only[Value.slice.injEq,true_and] at hv1 hv2
   obtain⟨rfl,rfl⟩:=hv1
   obtain⟨rfl,rfl⟩:=hv2
   obtain⟨r1a,r1c,rfl,_,_⟩:=hr1.form
   obtain⟨r2a,r2c,rfl,_,_⟩:=hr2.form
   have hdk:decide ((k:Int)<0)=false:=by simp
   have hdn:decide ((n:Int)<=(k:Int))=false:=by simp;omega
   have hne:(c.add != c.add)=false:=by simp
   have hbW:=Below.refl wo.heap.size wo
   have HAL:Hid (∀ W,KC ⟨b1,o1+k * 3,none⟩ ⟨b2,o2+k * 3,none⟩ c (.slice r1a (c.row.map Vl.cells).length r1c) (.slice r2a (c.row.map Vl.cells).length r2c) wo W->Calls Tryz.prog 99 #[.agg #[.bool c.add,.string ⟨c.rel.toArray⟩,.slice r1a (c.row.map Vl.cells).length r1c],.agg #[.bool c.add,.string ⟨c.rel.toArray⟩,.slice r2a (c.row.map Vl.cells).length r2c]] W fun e w'=>e=.returned (.bool true)/\KC ⟨b1,o1+k * 3,none⟩ ⟨b2,o2+k * 3,none⟩ c (.slice r1a (c.row.map Vl.cells).length r1c) (.slice r2a (c.row.map Vl.cells).length r2c) wo w') :=
    Lib.hid fun W h=>(alike_any W c _ _ (hr1.keep h.2.2.2.2.2.2) (hr2.keep h.2.2.2.2.2.2)).mono fun e w' hh=>⟨hh.1,h.step hl1 hl2 hh.2⟩
   unfold KC at HAL
   clear hr1 hr2 hc
   generalize (c.row.map Vl.cells).length=rn at *
   go_wp2_with fail
   go_region_held3 (fun w'=>w'.cell? ⟨b1,o1+k * 3,none⟩=some (.bool c.add)/\w'.cell? ⟨b1,o1+k * 3+1,none⟩=some (.string ⟨c.rel.toArray⟩)/\w'.cell? ⟨b1,o1+k * 3+2,none⟩=some (.slice r1a rn r1c)/\w'.cell? ⟨b2,o2+k * 3,none⟩=some (.bool c.add)/\w'.cell? ⟨b2,o2+k * 3+1,none⟩=some (.string ⟨c.rel.toArray⟩)/\w'.cell? ⟨b2,o2+k * 3+2,none⟩=some (.slice r2a rn r2c)/\Below wo.heap.size wo w')
    (first | exact hK | (go_split_ands;refine⟨?_,?_,?_,?_,?_,?_,?_⟩<;>first | exact bdrew (by assumption) | assumption | go_keep))
    (first | (go_at_call 99;go_split_ands;refine (HAL.out _ ⟨by assumption,by assumption,by assumption,by assumption,by assumption,by assumption,by assumption⟩).mono ?_;rintro e w' ⟨rfl,hK⟩))
   all_goals go_split_ands
   all_goals
    go_wp2_with fail
    go_roundw
    case rel=>exact⟨k+1,by omega,by go_num,Lib.hid (BW.out.trans (Below.mono (by assumption) BW.out.size))⟩
    case measure=>simp [intOf];omega
  ·obtain rfl:k=n:=by omega
   go_wp2_with fail
   go_ret
   exact⟨rfl,BW.out⟩
def CmdAt (w:World) (cells:Array Value) (c:Cmd):Prop :=
 ∃ cv hv av bv rv,cells=#[.int .i64 c.kind,.string ⟨c.rel.name.toArray⟩,cv,.string ⟨c.q.name.toArray⟩,hv,av,bv,.string ⟨c.nm.toArray⟩,.int .i64 c.id,.int .i64 c.n,rv] /\
  RowAt w cv 2 (c.rel.cols.map Col.cells)/\StrsAt w hv c.q.head/\AtomsAt w av c.q.atoms/\ChgsAt w bv c.b/\RowAt w rv 3 (c.row.map Vl.cells)
structure SmallC (c:Cmd):Prop where
 cols:c.rel.cols.length<=5
 head:c.q.head.length<=200000
 atoms:c.q.atoms.length<=6
 terms:∀ a∈c.q.atoms,a.ts.length<=5
 b:c.b.length<=256
 rows:∀ x∈c.b,x.row.length<=1000000
 row:c.row.length<=200000
theorem AtomsOwn.at {B:Nat} {w:World} {v:Value} {al:List Atm} (h:AtomsOwn B w v al) (hl:al.length<=6) (ht:∀ a∈al,a.ts.length<=5):AtomsAt w v al:=by
 obtain⟨rows,h1,h2⟩:=h
 exact atomsRow (B:=B) h1 rfl h2 (by omega) (fun a ha=>by have:=ht a ha;omega)
theorem AtomsAt.nil (w:World):AtomsAt w (.slice none 0 0) []:=⟨[],RowAt.nil _ _,trivial⟩
theorem StrsAt.nil (w:World):StrsAt w (.slice none 0 0) []:=RowAt.nil _ _
theorem CmdOwn.at {B:Nat} {w:World} {cells:Array Value} {c:Cmd} (h:CmdOwn B w cells c) (hs:SmallC c):CmdAt w cells c:=by
 obtain⟨cv,hv,av,bv,rv,rfl,h1,h2,h3,h4,h5⟩:=h
 refine⟨cv,hv,av,bv,rv,rfl,?_,?_,h3.at hs.atoms hs.terms,h4.at (by have:=hs.b;omega) (fun x hx=>by have:=hs.rows x hx;omega),?_⟩
 ·exact ColsOwn.at h1 (by have:=hs.cols;omega)
 ·refine RowAt.ofOwn (base:=B) (e:=9) (n:=c.q.head.length) (by rw[strC_flat];exact h2) (by simp) ?_ (by have:=hs.head;simp;omega)
  intro x hx
  obtain⟨s,_,rfl⟩:=List.mem_map.1 hx
  rfl
 ·refine RowAt.ofOwn h5 (by simp) ?_ (by have:=hs.row;simp;omega)
  intro x hx
  obtain⟨s,_,rfl⟩:=List.mem_map.1 hx
  rfl
theorem CmdAt.keep {w w':World} {cells:Array Value} {c:Cmd} (h:CmdAt w cells c) (hb:Below w.heap.size w w'):CmdAt w' cells c:=by
 obtain⟨cv,hv,av,bv,rv,rfl,h1,h2,h3,h4,h5⟩:=h
 exact⟨cv,hv,av,bv,rv,rfl,h1.keep hb,h2.keep hb,h3.keep hb,h4.keep hb,h5.keep hb⟩
set_option maxHeartbeats 4000000 in
set_option maxRecDepth 100000 in
theorem sameCmd_any (w:World) (ca cb:Array Value) (c:Cmd) (h1:CmdAt w ca c) (h2:CmdAt w cb c) :
 Calls Tryz.prog 16 #[.agg ca,.agg cb] w fun e w'=>e=.returned (.bool true)/\Below w.heap.size w w':=by
 obtain⟨cv,hv,av,bv,rv,rfl,a1,a2,a3,a4,a5⟩:=h1
 obtain⟨cv',hv',av',bv',rv',rfl,d1,d2,d3,d4,d5⟩:=h2
 have HR:=Lib.hid (fun W (hW:Below w.heap.size w W)=>sameRel_any W ⟨c.rel.name.toArray⟩ cv cv' c.rel.cols (a1.keep hW) (d1.keep hW))
 have HQ:=Lib.hid (fun W (hW:Below w.heap.size w W)=>same_any W ⟨c.q.name.toArray⟩ hv hv' av av' c.q.head c.q.atoms (a2.keep hW) (d2.keep hW) (a3.keep hW) (d3.keep hW))
 have HC:=Lib.hid (fun W (hW:Below w.heap.size w W)=>sameChgs_any W bv bv' c.b (a4.keep hW) (d4.keep hW))
 have HV:=Lib.hid (fun W (hW:Below w.heap.size w W)=>sameRow_any W rv rv' c.row c.row (a5.keep hW) (d5.keep hW))
 unfold sameV at HV
 rw[decide_eq_true rfl] at HV
 obtain⟨o1,l1,rfl,_,_⟩:=a1.form
 obtain⟨o2,l2,rfl,_,_⟩:=a2.form
 obtain⟨o3,l3,rfl,_,_⟩:=a3.form
 obtain⟨o4,l4,rfl,_,_⟩:=a4.form
 obtain⟨o5,l5,rfl,_,_⟩:=a5.form
 obtain⟨p1,m1,rfl,_,_⟩:=d1.form
 obtain⟨p2,m2,rfl,_,_⟩:=d2.form
 obtain⟨p3,m3,rfl,_,_⟩:=d3.form
 obtain⟨p4,m4,rfl,_,_⟩:=d4.form
 obtain⟨p5,m5,rfl,_,_⟩:=d5.form
 clear a1 a2 a3 a4 a5 d1 d2 d3 d4 d5
 generalize (⟨c.rel.name.toArray⟩:ByteArray)=x1 at *
 generalize (⟨c.q.name.toArray⟩:ByteArray)=x2 at *
 generalize (⟨c.nm.toArray⟩:ByteArray)=x3 at *
 generalize (List.map Col.cells c.rel.cols).length=n1 at *
 generalize c.q.head.length=n2 at *
 generalize (List.map Vl.cells c.row).length=n5 at *
 generalize c.q.atoms.length=n3 at *
 generalize c.b.length=n4 at *
 generalize c.kind=ck at *
 generalize c.id=ci at *
 generalize c.n=cn at *
 have hb0:Below w.heap.size w ((w.alloc (.cells #[.int .i64 ck,.string x1,.slice o1 n1 l1,.string x2,.slice o2 n2 l2,.slice o3 n3 l3,.slice o4 n4 l4,.string x3,.int .i64 ci,.int .i64 cn,.slice o5 n5 l5] 39)).alloc (.cells #[.int .i64 ck,.string x1,.slice p1 n1 m1,.string x2,.slice p2 n2 m2,.slice p3 n3 m3,.slice p4 n4 m4,.string x3,.int .i64 ci,.int .i64 cn,.slice p5 n5 m5] 39)):=balloc (balloc (Below.refl _ _) _) _
 have hq1:=(Blk.new w 39 #[.int .i64 ck,.string x1,.slice o1 n1 l1,.string x2,.slice o2 n2 l2,.slice o3 n3 l3,.slice o4 n4 l4,.string x3,.int .i64 ci,.int .i64 cn,.slice o5 n5 l5]).alloc (.cells #[.int .i64 ck,.string x1,.slice p1 n1 m1,.string x2,.slice p2 n2 m2,.slice p3 n3 m3,.slice p4 n4 m4,.string x3,.int .i64 ci,.int .i64 cn,.slice p5 n5 m5] 39)
 have hq2:=blkNew1 w (.cells #[.int .i64 ck,.string x1,.slice o1 n1 l1,.string x2,.slice o2 n2 l2,.slice o3 n3 l3,.slice o4 n4 l4,.string x3,.int .i64 ci,.int .i64 cn,.slice o5 n5 l5] 39) 39 #[.int .i64 ck,.string x1,.slice p1 n1 m1,.string x2,.slice p2 n2 m2,.slice p3 n3 m3,.slice p4 n4 m4,.string x3,.int .i64 ci,.int .i64 cn,.slice p5 n5 m5]
 obtain⟨W0,hW0⟩:∃ W0,(w.alloc (.cells #[.int .i64 ck,.string x1,.slice o1 n1 l1,.string x2,.slice o2 n2 l2,.slice o3 n3 l3,.slice o4 n4 l4,.string x3,.int .i64 ci,.int .i64 cn,.slice o5 n5 l5] 39)).alloc (.cells #[.int .i64 ck,.string x1,.slice p1 n1 m1,.string x2,.slice p2 n2 m2,.slice p3 n3 m3,.slice p4 n4 m4,.string x3,.int .i64 ci,.int .i64 cn,.slice p5 n5 m5] 39)=W0:=⟨_,rfl⟩
 rw[hW0] at hb0 hq1 hq2
 have l1q:=hq1.lt
 have l2q:=hq2.lt
 have f0:=hq1.cell 0
 have g0:=hq2.cell 0
 have f1:=hq1.cell 1
 have g1:=hq2.cell 1
 have f2:=hq1.cell 2
 have g2:=hq2.cell 2
 simp only[List.getElem?_toArray,List.getElem?_cons_zero,List.getElem?_cons_succ] at f0 g0 f1 g1 f2 g2
 have HW0:=Lib.hid hW0
 have HB0:=Lib.hid hb0
 have HQ1:=Lib.hid hq1
 have HQ2:=Lib.hid hq2
 have HX:=Lib.hid (HR.out W0 hb0)
 clear hW0 hb0 hq1 hq2 HR
 go_enter Tryz.func16,Tryz.ntmps16
 go_upto_region 1 with fail
 rw[HW0.out]
 go_wp2_with fail
 refine HX.out.mono ?_
 rintro e w1 ⟨rfl,hb1⟩
 have hbb1:=HB0.out.trans (hb1.mono HB0.out.size)
 have hw1:Below W0.heap.size W0 w1:=hb1
 have hq1:=HQ1.out.below hw1 HQ1.out.lt
 have hq2:=HQ2.out.below hw1 HQ2.out.lt
 have f3:=hq1.cell 3
 have g3:=hq2.cell 3
 have f4:=hq1.cell 4
 have g4:=hq2.cell 4
 have f5:=hq1.cell 5
 have g5:=hq2.cell 5
 simp only[List.getElem?_toArray,List.getElem?_cons_zero,List.getElem?_cons_succ] at f3 g3 f4 g4 f5 g5
 have l1q:=hq1.lt
 have l2q:=hq2.lt
 have HX:=Lib.hid (HQ.out _ hbb1)
 have HB1:=Lib.hid hbb1
 have HWW1:=Lib.hid hw1
 clear hb1 hbb1 hw1 hq1 hq2 f0 g0 f1 g1 f2 g2
 go_wp2_with fail
 refine HX.out.mono ?_
 rintro e w2 ⟨rfl,hb2⟩
 have hbb2:=HB1.out.trans (hb2.mono HB1.out.size)
 have hw2:=HWW1.out.trans (hb2.mono HWW1.out.size)
 have hq1:=HQ1.out.below hw2 HQ1.out.lt
 have hq2:=HQ2.out.below hw2 HQ2.out.lt
 have f6:=hq1.cell 6
 have g6:=hq2.cell 6
 simp only[List.getElem?_toArray,List.getElem?_cons_zero,List.getElem?_cons_succ] at f6 g6
 have l1q:=hq1.lt
 have l2q:=hq2.lt
 have HX:=Lib.hid (HC.out _ hbb2)
 have HB2:=Lib.hid hbb2
 have HWW2:=Lib.hid hw2
 clear hb2 hbb2 hw2 hq1 hq2 f3 g3 f4 g4 f5 g5
 go_wp2_with fail
 refine HX.out.mono ?_
 rintro e w3 ⟨rfl,hb3⟩
 have hbb3:=HB2.out.trans (hb3.mono HB2.out.size)
 have hw3:=HWW2.out.trans (hb3.mono HWW2.out.size)
 have hq1:=HQ1.out.below hw3 HQ1.out.lt
 have hq2:=HQ2.out.below hw3 HQ2.out.lt
 have f7:=hq1.cell 7
 have g7:=hq2.cell 7
 have f8:=hq1.cell 8
 have g8:=hq2.cell 8
 have f9:=hq1.cell 9
 have g9:=hq2.cell 9
 have f10:=hq1.cell 10
 have g10:=hq2.cell 10
 simp only[List.getElem?_toArray,List.getElem?_cons_zero,List.getElem?_cons_succ] at f7 g7 f8 g8 f9 g9 f10 g10
 have l1q:=hq1.lt
 have l2q:=hq2.lt
 have HX:=Lib.hid (HV.out _ hbb3)
 have HB3:=Lib.hid hbb3
 have HWW3:=Lib.hid hw3
 clear hb3 hbb3 hw3 hq1 hq2 f6 g6
 go_wp2_with fail
 refine HX.out.mono ?_
 rintro e w4 ⟨rfl,hb4⟩
 have hbb4:=HB3.out.trans (hb4.mono HB3.out.size)
 have hw4:=HWW3.out.trans (hb4.mono HWW3.out.size)
 have hq1:=HQ1.out.below hw4 HQ1.out.lt
 have hq2:=HQ2.out.below hw4 HQ2.out.lt
 have HB4:=Lib.hid hbb4
 have HWW4:=Lib.hid hw4
 clear hb4 hbb4 hw4 hq1 hq2 f7 g7 f8 g8 f9 g9 f10 g10
 go_wp2_with fail
 go_ret
 exact⟨by first | rfl | simp,HB4.out⟩
set_option maxHeartbeats 2000000 in
set_option maxRecDepth 100000 in
theorem of_any (w:World) (k i n:Int) (x1 x2 x3:ByteArray) (o1 o2 o3 o4 o5:Option Addr) (l1 d1 l2 d2 l3 d3 l4 d4 l5 d5:Nat) :
 Calls Tryz.prog 17 #[.agg #[.int .i64 k,.string x1,.slice o1 l1 d1,.string x2,.slice o2 l2 d2,.slice o3 l3 d3,.slice o4 l4 d4,.string x3,.int .i64 i,.int .i64 n,.slice o5 l5 d5]] w fun e w'=>e=.returned (.agg #[.int .i64 k,.string x1,.slice o1 l1 d1,.string x2,.slice o2 l2 d2,.slice o3 l3 d3,.slice o4 l4 d4,.string x3,.int .i64 i,.int .i64 n,.slice o5 l5 d5])/\Below w.heap.size w w':=by
 have hb0:Below w.heap.size w ((w.alloc (.cells #[.int .i64 k,.string x1,.slice o1 l1 d1,.string x2,.slice o2 l2 d2,.slice o3 l3 d3,.slice o4 l4 d4,.string x3,.int .i64 i,.int .i64 n,.slice o5 l5 d5] 34)).alloc (.cells #[.int .i64 0,.string ⟨#[]⟩,.slice none 0 0,.string ⟨#[]⟩,.slice none 0 0,.slice none 0 0,.slice none 0 0,.string ⟨#[]⟩,.int .i64 0,.int .i64 0,.slice none 0 0] 39)):=balloc (balloc (Below.refl _ _) _) _
 have hz:=blkNew1 w (.cells #[.int .i64 k,.string x1,.slice o1 l1 d1,.string x2,.slice o2 l2 d2,.slice o3 l3 d3,.slice o4 l4 d4,.string x3,.int .i64 i,.int .i64 n,.slice o5 l5 d5] 34) 39 #[.int .i64 0,.string ⟨#[]⟩,.slice none 0 0,.string ⟨#[]⟩,.slice none 0 0,.slice none 0 0,.slice none 0 0,.string ⟨#[]⟩,.int .i64 0,.int .i64 0,.slice none 0 0]
 have hq:=(Blk.new w 34 #[.int .i64 k,.string x1,.slice o1 l1 d1,.string x2,.slice o2 l2 d2,.slice o3 l3 d3,.slice o4 l4 d4,.string x3,.int .i64 i,.int .i64 n,.slice o5 l5 d5]).alloc (.cells #[.int .i64 0,.string ⟨#[]⟩,.slice none 0 0,.string ⟨#[]⟩,.slice none 0 0,.slice none 0 0,.slice none 0 0,.string ⟨#[]⟩,.int .i64 0,.int .i64 0,.slice none 0 0] 39)
 obtain⟨W0,hW0⟩:∃ W0,((w.alloc (.cells #[.int .i64 k,.string x1,.slice o1 l1 d1,.string x2,.slice o2 l2 d2,.slice o3 l3 d3,.slice o4 l4 d4,.string x3,.int .i64 i,.int .i64 n,.slice o5 l5 d5] 34)).alloc (.cells #[.int .i64 0,.string ⟨#[]⟩,.slice none 0 0,.string ⟨#[]⟩,.slice none 0 0,.slice none 0 0,.slice none 0 0,.string ⟨#[]⟩,.int .i64 0,.int .i64 0,.slice none 0 0] 39))=W0:=⟨_,rfl⟩
 rw[hW0] at hb0 hz hq
 have k0:=hq.cell 0
 have k1:=hq.cell 1
 have k2:=hq.cell 2
 have k3:=hq.cell 3
 have k4:=hq.cell 4
 have k5:=hq.cell 5
 have k6:=hq.cell 6
 have k7:=hq.cell 7
 have k8:=hq.cell 8
 have k9:=hq.cell 9
 have k10:=hq.cell 10
 have kl:=hq.lt
 simp only[List.getElem?_toArray,List.getElem?_cons_zero,List.getElem?_cons_succ] at k0 k1 k2 k3 k4 k5 k6 k7 k8 k9 k10
 have HB0:=Lib.hid hb0
 have HZ:=Lib.hid hz
 have HW0:=Lib.hid hW0
 clear hb0 hz hq hW0
 go_enter Tryz.func17,Tryz.ntmps17
 go_upto_region 1 with fail
 rw[HW0.out]
 go_wp2_with (refine wpList_store_blk rfl 39 _ _ rfl (w.heap.size+1) 39 _ _ rfl rfl HZ.out (by kernel_rfl) rfl (by simp [Value.oneCell']) ?_)
 intro w4 hb4 hm4 hz4
 clear k0 k1 k2 k3 k4 k5 k6 k7 k8 k9 k10 kl
 have r0:=hb4.cell 0
 have r1:=hb4.cell 1
 have r2:=hb4.cell 2
 have r3:=hb4.cell 3
 have r4:=hb4.cell 4
 have r5:=hb4.cell 5
 have r6:=hb4.cell 6
 have r7:=hb4.cell 7
 have r8:=hb4.cell 8
 have r9:=hb4.cell 9
 have r10:=hb4.cell 10
 simp only[List.getElem?_toArray,List.getElem?_cons_zero,List.getElem?_cons_succ] at r0 r1 r2 r3 r4 r5 r6 r7 r8 r9 r10
 have HP:=Lib.hid (HB0.out.trans ((MT.ofMod (Ts:=[39]) hm4 HZ.out (by simp) (by omega:w.heap.size<=w.heap.size+1)).below HB0.out.size))
 clear hb4 hm4 hz4
 go_wp2_with fail
 exact bodyPost_ret (v:=.agg #[.int .i64 k,.string x1,.slice o1 l1 d1,.string x2,.slice o2 l2 d2,.slice o3 l3 d3,.slice o4 l4 d4,.string x3,.int .i64 i,.int .i64 n,.slice o5 l5 d5]) (by simp [results,Tryz.results17,go_sem, *]) rfl ⟨rfl,HP.out⟩
theorem CmdAt.form {w:World} {cells:Array Value} {c:Cmd} (h:CmdAt w cells c):∃ (x1 x2 x3:ByteArray) (o1 o2 o3 o4 o5:Option Addr) (l1 d1 l2 d2 l3 d3 l4 d4 l5 d5:Nat),cells=#[.int .i64 c.kind,.string x1,.slice o1 l1 d1,.string x2,.slice o2 l2 d2,.slice o3 l3 d3,.slice o4 l4 d4,.string x3,.int .i64 c.id,.int .i64 c.n,.slice o5 l5 d5]:=by
 obtain⟨cv,hv,av,bv,rv,rfl,h1,h2,h3,h4,h5⟩:=h
 obtain⟨o1,d1,rfl,_,_⟩:=h1.form
 obtain⟨o2,d2,rfl,_,_⟩:=h2.form
 obtain⟨o3,d3,rfl,_,_⟩:=h3.form
 obtain⟨o4,d4,rfl,_,_⟩:=h4.form
 obtain⟨o5,d5,rfl,_,_⟩:=h5.form
 exact⟨_,_,_,_,_,_,_,_,_,_,_,_,_,_,_,_,_,_,rfl⟩
end Go.Proofs.YtamjadghncnbcaaGreatDoor
