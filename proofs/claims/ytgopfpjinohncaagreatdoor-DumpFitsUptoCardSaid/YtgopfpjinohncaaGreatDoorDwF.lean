/- osierref09.SameAtom, Same, over the same: -/
import Derived.Test.YtgopfpjinohncaaGreatDoorDaF
import Derived.Test.YtgopfpjinohncaaGreatDoorKfF
import Derived.Test.YtgopfpjinohncaaGreatDoorDpF
import Derived.Test.YtgopfpjinohncaaGreatDoorRxF
import Derived.Test.YtgopfpjinohncaaGreatDoorNaF
set_option maxHeartbeats 16000000
set_option maxRecDepth 100000
set_option linter.unusedVariables false
namespace Go.Proofs.YtgopfpjinohncaaGreatDoor
open Go.Proofs.Tryz
open Go.RowKit
theorem ut (d:Nat) (a b:dd) (w:World):(Op.equalIn (d+3) 113 (.agg a.cells.toArray) (.agg b.cells.toArray)).run prog w=.ok (decide (a=b)) w:=by
 have hf:(prog.fieldsOf 113).toList.map f3=[("Var",9,0),("Const",111,1)]:=by kernel_rfl
 have p1:∀ (a b c d:Value) w,(part 9 #[a,b,c,d] 0).run prog w=.ok a w:=fun _ _ _ _ _=>by kernel_rfl
 have p2:∀ (a b c d:Value) w,(part 111 #[a,b,c,d] 1).run prog w=.ok (.agg #[b,c,d]) w:=fun _ _ _ _ _=>by kernel_rfl
 rw[run_equalIn_agg w (d+2) _ _ _ (by kernel_rfl) (by kernel_rfl),qK,hf]
 have e1:=fun (x y:ByteArray) (w:World)=>run_equalIn_string (P:=prog) w (d+1) 9 x y underlying9
 have e2:=fun (v u:Vl) (w:World)=>l7 d v u w
 obtain⟨x,k,n,t⟩:=a
 obtain⟨x',k',n',t'⟩:=b
 have e3:=fun (w:World)=>e2 ⟨k,n,t⟩ ⟨k',n',t'⟩ w
 simp only[Vl.cells] at e3
 simp only[dd.cells,DQ,Sem.run_bind,Sem.run_ite,p1,p2,Result.andThen_ok]
 by_cases h1:x=x'<;>by_cases h2:(⟨k,n,t⟩:Vl)=⟨k',n',t'⟩<;>simp [h1,h2,e1,e3,dd.mk.injEq]<;>simp_all
theorem AJ (a b:dd) (w:World):(binOp .neq 113 (.agg a.cells.toArray) (.agg b.cells.toArray)).run prog w=.ok (.bool (!decide (a=b))) w:=by
 rw[run_neq_struct,ut 9997]
 rfl
theorem qr (w:World) (rel:ByteArray) (va vb:Value) (ts:List dd) (ha:aj w va 4 (ts.map dd.cells)) (hb:aj w vb 4 (ts.map dd.cells)) :
 Calls prog 75 #[.agg #[.string rel,va],.agg #[.string rel,vb]] w fun e w'=>e=.returned (.bool true)/\Below w.heap.size w w':=by
 obtain⟨aa,ac,rfl,hac,ham⟩:=ha.form
 obtain⟨ba,bc,rfl,hbc,hbm⟩:=hb.form
 have hneq:∀ (x:List UInt8) (k n:Int) (t:List UInt8) (w:World),(binOp .neq 113 (.agg #[.string ⟨x.toArray⟩,.int .i64 k,.int .i64 n,.string ⟨t.toArray⟩]) (.agg #[.string ⟨x.toArray⟩,.int .i64 k,.int .i64 n,.string ⟨t.toArray⟩])).run prog w=.ok (.bool false) w:=fun x k n t w=>by
  have:=AJ ⟨x,k,n,t⟩ ⟨x,k,n,t⟩ w
  simpa [dd.cells] using this
 have hla:=ha.len
 unfold maxLen at ham hbm
 have HA:=Fx ha
 have HB:=Fx hb
 simp only[List.length_map] at hac hbc hla ⊢
 generalize hN:ts.length=n at *
 have HN:=Fx hN
 clear ha hb hN
 go_enter func75,ntmps75
 go_wp2_with fail
 go_loopw [5] (fun i wr=>∃ k:Nat,k<=n/\i=.int .i64 k/\Hid (af wr w.heap.size 105 #[.string rel,.slice aa n ac])/\Hid (af wr (w.heap.size+1) 105 #[.string rel,.slice ba n bc])/\Hid (Below w.heap.size w wr)) (fun i _=>n - (intOf i).toNat)
 case atStart=>exact⟨0,Fz,rfl,Fx ((af.new _ _ _).alloc _),Fx (cM _ _ _ _),Fx (ae (ae Fy _) _)⟩
 case round =>
  obtain⟨k,hk,rfl,XA,XB,BW⟩:=hrel
  have a1:=XA.out.cell 1
  have b1:=XB.out.cell 1
  simp only[FF] at a1 b1
  have hal:=XA.out.lt
  have hbl:=XB.out.lt
  by_cases hlt:k<n
  ·obtain⟨t,ht⟩:∃ t,ts[k]? = some t:=⟨ts[k]'(by rw[HN.out];exact hlt),FD (by rw[HN.out];exact hlt)⟩
   obtain⟨g1,o1,c1,hv1,_,_,hgl1,k1⟩:=(HA.out.keep BW.out).get (i:=k) (x:=t.cells) (by simp [ht])
   obtain⟨g2,o2,c2,hv2,_,_,hgl2,k2⟩:=(HB.out.keep BW.out).get (i:=k) (x:=t.cells) (by simp [ht])
   simp only[List.length_map,HN.out,Value.slice.injEq,true_and] at hv1 hv2
   obtain⟨rfl,rfl⟩:=hv1
   obtain⟨rfl,rfl⟩:=hv2
   have p0:=k1 0 _ rfl
   have p1:=k1 1 _ rfl
   have p2:=k1 2 _ rfl
   have p3:=k1 3 _ rfl
   have r0:=k2 0 _ rfl
   have r1:=k2 1 _ rfl
   have r2:=k2 2 _ rfl
   have r3:=k2 3 _ rfl
   simp only[Nat.add_zero] at p0 r0
   have hd:decide ((k:Int)<0)=false:=by simp
   have hd2:decide ((n:Int)<=(k:Int))=false:=by simp;omega
   clear k1 k2 ht
   go_wp2_with fail
   go_quiet (fail)
   go_wp2_with fail
   go_roundw
   case rel=>exact⟨k+1,by omega,by go_num,Fx (XA.out.drewN _),Fx (XB.out.drewN _),Fx (dC BW.out _)⟩
   case measure=>simp [intOf];omega
  ·obtain rfl:k=n:=by omega
   go_wp2_with fail
   go_ret
   exact⟨rfl,BW.out⟩
theorem BU (w:World) (name:ByteArray) (ha hb va vb:Value) (hd:List (List UInt8)) (al:List eb) (h1:aI w ha hd) (h2:aI w hb hd) (h3:aK w va al) (h4:aK w vb al) :
 Calls prog 25 #[.agg #[.string name,ha,va],.agg #[.string name,hb,vb]] w fun e w'=>e=.returned (.bool true)/\Below w.heap.size w w':=by
 obtain⟨aa,ac,rfl,hac,ham⟩:=h3.form
 obtain⟨ba,bc,rfl,hbc,hbm⟩:=h4.form
 obtain⟨ra,rows,hrows⟩:=h3
 obtain⟨h1a,h1c,rfl,_,_⟩:=h1.form
 obtain⟨h2a,h2c,rfl,_,_⟩:=h2.form
 unfold maxLen at ham hbm
 have hal0:=ra
 have HA:Hid (aK w (.slice aa al.length ac) al):=Fx ⟨_,rows,hrows⟩
 have HB:=Fx h4
 have b0:Below w.heap.size w ((w.alloc (.cells #[.string name,.slice h1a hd.length h1c,.slice aa al.length ac] 50)).alloc (.cells #[.string name,.slice h2a hd.length h2c,.slice ba al.length bc] 50)):=ae (ae Fy _) _
 have hst:=oL _ _ _ hd hd (h1.keep b0) (h2.keep b0)
 rw[decide_eq_true rfl] at hst
 have HST:=Fx hst
 have B0:=Fx b0
 have XA0:=Fx ((af.new w 50 #[.string name,.slice h1a hd.length h1c,.slice aa al.length ac]).alloc (.cells #[.string name,.slice h2a hd.length h2c,.slice ba al.length bc] 50))
 have XB0:=Fx (cM w (.cells #[.string name,.slice h1a hd.length h1c,.slice aa al.length ac] 50) 50 #[.string name,.slice h2a hd.length h2c,.slice ba al.length bc])
 generalize hN:al.length=n at *
 have HN:=Fx hN
 clear h1 h2 h4 hst b0 rows hrows hN hal0 ra
 go_enter func25,ntmps25
 go_wp2_with fail
 refine HST.out.mono ?_
 rintro e w1 ⟨rfl,hb1⟩
 have XA1:=Fx (XA0.out.below hb1 (by simp<;>omega))
 have XB1:=Fx (XB0.out.below hb1 (by simp<;>omega))
 have B1:=Fx (B0.out.trans (hb1.mono (by simp<;>omega)))
 have a2:=XA1.out.cell 2
 have b2:=XB1.out.cell 2
 simp only[FF] at a2 b2
 have hal:=XA1.out.lt
 have hbl:=XB1.out.lt
 clear hb1
 go_wp2_with fail
 go_loopw [5] (fun i wr=>∃ k:Nat,k<=n/\i=.int .i64 k/\Hid (af wr w.heap.size 50 #[.string name,.slice h1a hd.length h1c,.slice aa n ac])/\Hid (af wr (w.heap.size+1) 50 #[.string name,.slice h2a hd.length h2c,.slice ba n bc])/\Hid (Below w.heap.size w wr)) (fun i _=>n - (intOf i).toNat)
 case atStart=>exact⟨0,Fz,rfl,XA1,XB1,B1⟩
 case round =>
  obtain⟨k,hk,rfl,XA,XB,BW⟩:=hrel
  have a2:=XA.out.cell 2
  have b2:=XB.out.cell 2
  simp only[FF] at a2 b2
  have hal:=XA.out.lt
  have hbl:=XB.out.lt
  by_cases hlt:k<n
  ·obtain⟨a,ha⟩:∃ a,al[k]? = some a:=⟨al[k]'(by rw[HN.out];exact hlt),FD (by rw[HN.out];exact hlt)⟩
   obtain⟨g1,o1,c1,t1,hv1,_,_,hgl1,p0,p1,hr1,_⟩:=(HA.out.keep BW.out).get ha
   obtain⟨g2,o2,c2,t2,hv2,_,_,hgl2,r0,r1,hr2,_⟩:=(HB.out.keep BW.out).get ha
   rw[HN.out] at hv1 hv2
   simp only[Value.slice.injEq,true_and] at hv1 hv2
   obtain⟨rfl,rfl⟩:=hv1
   obtain⟨rfl,rfl⟩:=hv2
   obtain⟨t1a,t1c,rfl,_,_⟩:=hr1.form
   obtain⟨t2a,t2c,rfl,_,_⟩:=hr2.form
   have hd:decide ((k:Int)<0)=false:=by simp
   have hd2:decide ((n:Int)<=(k:Int))=false:=by simp;omega
   simp only[List.length_map] at p1 r1 hr1 hr2
   have HSA:=Fx (qr wr.drew ⟨a.rel.toArray⟩ _ _ a.ts (hr1.keep (ay Fy)) (hr2.keep (ay Fy)))
   clear ha hr1 hr2
   go_wp2_with fail
   go_region_law (go_simp;go_at_call 75;refine HSA.out.mono ?_;rintro e w6 ⟨rfl,hb6⟩)
   all_goals
    have XA6:=Fx (XA.out.drew.below hb6 hal)
    have XB6:=Fx (XB.out.drew.below hb6 hbl)
    have B6:=Fx ((ay BW.out).trans (hb6.mono (by have:=BW.out.size;simpa using this)))
    clear hb6
    go_wp2_with fail
    go_roundw
    case rel=>exact⟨k+1,by omega,by go_num,XA6,XB6,B6⟩
    case measure=>simp [intOf];omega
  ·obtain rfl:k=n:=by omega
   go_wp2_with fail
   go_ret
   exact⟨rfl,BW.out⟩
def lX (w:World) (cells:Array Value) (c:mf):Prop :=
 ∃ cv hv av bv rv,cells=#[.int .i64 c.kind,.string ⟨c.rel.name.toArray⟩,cv,.string ⟨c.q.name.toArray⟩,hv,av,bv,.string ⟨c.nm.toArray⟩,.int .i64 c.id,.int .i64 c.n,rv] /\
  aj w cv 2 (c.rel.cols.map bd.cells)/\aI w hv c.q.head/\aK w av c.q.atoms/\cU w bv c.b/\aj w rv 3 (c.row.map Vl.cells)
structure vB (c:mf):Prop where
 cols:c.rel.cols.length<=5
 head:c.q.head.length<=200000
 atoms:c.q.atoms.length<=6
 terms:∀ a∈c.q.atoms,a.ts.length<=5
 b:c.b.length<=256
 rows:∀ x∈c.b,x.row.length<=1000000
 row:c.row.length<=200000
theorem cm.at {B:Nat} {w:World} {v:Value} {al:List eb} (h:cm B w v al) (hl:al.length<=6) (ht:∀ a∈al,a.ts.length<=5):aK w v al:=by
 obtain⟨rows,h1,h2⟩:=h
 exact uf (B:=B) h1 rfl h2 (by omega) (fun a ha=>by have:=ht a ha;omega)
theorem vz.at {B:Nat} {w:World} {cells:Array Value} {c:mf} (h:vz B w cells c) (hs:vB c):lX w cells c:=by
 obtain⟨cv,hv,av,bv,rv,rfl,h1,h2,h3,h4,h5⟩:=h
 refine⟨cv,hv,av,bv,rv,rfl,?_,?_,h3.at hs.atoms hs.terms,h4.at (by have:=hs.b;omega) (fun x hx=>by have:=hs.rows x hx;omega),?_⟩
 ·exact bV.at h1 (by have:=hs.cols;omega)
 ·refine aj.ofOwn (base:=B) (e:=9) (n:=c.q.head.length) (by rw[gj];exact h2) (by simp) ?_ (by have:=hs.head;simp;omega)
  intro x hx
  obtain⟨s,_,rfl⟩:=List.mem_map.1 hx
  rfl
 ·refine aj.ofOwn h5 (by simp) ?_ (by have:=hs.row;simp;omega)
  intro x hx
  obtain⟨s,_,rfl⟩:=List.mem_map.1 hx
  rfl
theorem lX.keep {w w':World} {cells:Array Value} {c:mf} (h:lX w cells c) (hb:Below w.heap.size w w'):lX w' cells c:=by
 obtain⟨cv,hv,av,bv,rv,rfl,h1,h2,h3,h4,h5⟩:=h
 exact⟨cv,hv,av,bv,rv,rfl,h1.keep hb,h2.keep hb,h3.keep hb,h4.keep hb,h5.keep hb⟩
def mD {α:Type} (R:Nat->World->Value->α->Prop) (z:α) (fr:Int) (w:World):PR α->Ending->World->Prop
 | .bad a f,e,w'=>(f≠0->e=.panicked [{ v:=aP (fr+a) f,recovered:=false }])/\(f=0->∃ v,e=.returned v/\R w.heap.size w' v z)/\Below w.heap.size w w'
 | .ok x _,e,w'=>∃ v,e=.returned v/\R w.heap.size w' v x/\Below w.heap.size w w'
def E8 (B:Nat) (w:World) (v:Value) (x:aU):Prop:=∃ cv,v=.agg #[.string ⟨x.name.toArray⟩,cv]/\bV B w cv x.cols
def Fj (B:Nat) (w:World) (v:Value) (x:cf):Prop:=∃ hv av,v=.agg #[.string ⟨x.name.toArray⟩,hv,av]/\aV B w hv x.head/\cm B w av x.atoms
theorem mN (B:Nat) (w:World):cK B w (.slice none 0 0) []:=⟨[],World.ownsRow_nil _ _ _ _,trivial⟩
theorem lH (B:Nat) (w:World):cm B w (.slice none 0 0) []:=⟨[],World.ownsRow_nil _ _ _ _,trivial⟩
theorem oq {w w1:World} {ty:TypeId} {c0 c1:Value} (zb:af w1 w.heap.size ty #[c0,c1]) (hb:Below w.heap.size w w1) (v0 v1:Value) (o:Obj) :
 MT 0 [ty] w1 (((w1.setCell ⟨w.heap.size,0,none⟩ v0).setCell ⟨w.heap.size,1,none⟩ v1).alloc o)/\Below w.heap.size w (((w1.setCell ⟨w.heap.size,0,none⟩ v0).setCell ⟨w.heap.size,1,none⟩ v1).alloc o):=by
 have m1:MT 0 [ty] w1 (w1.setCell ⟨w.heap.size,0,none⟩ v0):=MT.setCell (MT.refl w1) zb (by simp) (Fz) _
 have z1:=zb.set_ 0 v0
 have m2:=MT.setCell m1 z1 (i:=1) (by simp) (Fz) v1
 exact⟨m2.trans (MT.ofBelow (ae Fy o)),ae ((hb.setCell FA _).setCell FA _) o⟩
theorem mZ {w w1:World} {ty:TypeId} {c0 c1 c2:Value} (zb:af w1 w.heap.size ty #[c0,c1,c2]) (hb:Below w.heap.size w w1) (v0 v1 v2:Value) (o:Obj) :
 MT 0 [ty] w1 ((((w1.setCell ⟨w.heap.size,0,none⟩ v0).setCell ⟨w.heap.size,1,none⟩ v1).setCell ⟨w.heap.size,2,none⟩ v2).alloc o)/\Below w.heap.size w ((((w1.setCell ⟨w.heap.size,0,none⟩ v0).setCell ⟨w.heap.size,1,none⟩ v1).setCell ⟨w.heap.size,2,none⟩ v2).alloc o):=by
 have m1:MT 0 [ty] w1 (w1.setCell ⟨w.heap.size,0,none⟩ v0):=MT.setCell (MT.refl w1) zb (by simp) (Fz) _
 have z1:=zb.set_ 0 v0
 have m2:=MT.setCell m1 z1 (i:=1) (by simp) (Fz) v1
 have m3:=MT.setCell m2 (z1.set_ 1 v1) (i:=2) (by simp) (Fz) v2
 exact⟨m3.trans (MT.ofBelow (ae Fy o)),ae (((hb.setCell FA _).setCell FA _).setCell FA _) o⟩
theorem ky {B:Nat} {w:World} {v:Value} {l:List eb} (h:cm B w v l):∃ (a:Option Addr) (cap:Nat),v=.slice a l.length cap:=by
 obtain⟨rows,h1,_⟩:=h
 exact aB h1
theorem cm.low {B B':Nat} {w:World} {v:Value} {al:List eb} (h:cm B w v al) (hb:B'<=B):cm B' w v al:=by
 obtain⟨rows,h1,h2⟩:=h
 exact⟨rows,World.ownsRow.low h1 hb,h2.mono fun row a ⟨tv,e,h3⟩=>⟨tv,e,World.ownsRow.low h3 hb⟩⟩
theorem cm.mt {B B':Nat} {w w':World} {v:Value} {al:List eb} {Ts:List TypeId} (h:cm B w v al) (hm:MT B' Ts w w') (h1:105 ∉ Ts) (h2:113 ∉ Ts):cm B w' v al:=by
 obtain⟨rows,h3,h4⟩:=h
 exact⟨rows,hm.ownsRow h3 h1,h4.mono fun row a ⟨tv,e,h5⟩=>⟨tv,e,hm.ownsRow h5 h2⟩⟩
def eN {α:Type} (p:PR α):Prop:=∀ a e,p=.bad a e->0<=a/\a<=281474976710656
theorem Az (s:ByteArray) (fr:Nat) (w:World) (p:PR (List eP)) (hfr:fr<=s.size) (hs:s.size<=281474976710656) (hr:eN p)
 (hp:∀ W,Below w.heap.size w W->Calls prog 63 #[.string (s.extract fr s.size)] W (kr W p)) :
 Calls prog 62 #[.string s,.int .i64 (fr:Int),.func (.func 63) #[] #[]] w (mD cK [] fr w p):=by
 have hmf:∀ (fn:Fn) (first cap:Array Value) (w:World),(Instr.makeFunc fn first cap).run prog w=.ok (.func fn first cap) w:=fun _ _ _ _=>rfl
 have h0:=hp w Fy
 have HP:=Fx h0
 cases p with
 | bad a f =>
   have hra:=hr a f rfl
   clear h0 hp hr
   by_cases hf:f=0
   ·subst hf
    go_enter func62,ntmps62
    go_wp2_with fail
    refine HP.out.mono ?_
    rintro e w1 ⟨rfl,hb⟩
    have HB:=Fx hb
    clear hb
    go_wp2_with fail
    go_ret
    exact⟨fun q=>absurd rfl q,fun _=>⟨_,rfl,mN _ _⟩,HB.out⟩
   ·have hf1:(f != 0)=true:=by simpa using hf
    go_enter func62,ntmps62
    go_wp2_with fail
    refine HP.out.mono ?_
    rintro e w1 ⟨rfl,hb⟩
    have HB:=Fx hb
    clear hb
    go_wp2_with fail
    exact⟨rfl,fun _=>rfl,fun q=>absurd q hf,HB.out⟩
 | ok x c =>
   clear h0 hp hr
   go_enter func62,ntmps62
   go_wp2_with fail
   refine HP.out.mono ?_
   rintro e w1 ⟨bv,rfl,ho,hb⟩
   have HB:=Fx hb
   have HO:=Fx ho
   clear hb ho
   go_wp2_with fail
   go_ret
   exact⟨_,rfl,HO.out,HB.out⟩
theorem Bd (s:ByteArray) (fr:Nat) (w:World) (p:PR aU) (hfr:fr<=s.size) (hs:s.size<=281474976710656) (hr:eN p)
 (hp:∀ W,Below w.heap.size w W->Calls prog 59 #[.string (s.extract fr s.size)] W (kz W p)) :
 Calls prog 58 #[.string s,.int .i64 (fr:Int),.func (.func 59) #[] #[]] w (mD E8 ⟨[],[]⟩ fr w p):=by
 have hb0:Below w.heap.size w (w.alloc (.cells #[.string ⟨#[]⟩,.slice none 0 0] 57)):=ae Fy _
 have zb:=af.new w 57 #[.string ⟨#[]⟩,.slice none 0 0]
 have h0:=hp _ hb0
 have HP:=Fx h0
 have HB0:=Fx hb0
 have ZB:=Fx zb
 clear hb0 zb h0 hp
 cases p with
 | bad a f =>
   have hra:=hr a f rfl
   clear hr
   by_cases hf:f=0
   ·subst hf
    go_enter func58,ntmps58
    go_wp2_with fail
    refine HP.out.mono ?_
    rintro e w1 ⟨rfl,hb⟩
    have HB:=Fx (dZ HB0.out hb)
    have zb1:=ZB.out.below hb ZB.out.lt
    have z0:=zb1.cell 0
    have y0:=zb1.frozen 0
    have z1:=zb1.cell 1
    have y1:=zb1.frozen 1
    have zl:=zb1.lt
    simp only[FF] at z0 z1
    have ZB1:=Fx zb1
    clear hb zb1 ZB HP HB0
    go_wp2_with fail
    have hend:=fun o=>oq ZB1.out HB.out (.string ⟨#[]⟩) (.slice none 0 0) o
    have HE:=Fx hend
    clear hend ZB1 HB
    refine bodyPost_ret (v:=.agg #[.string ⟨#[]⟩,.slice none 0 0]) (by simp [results,results58,go_sem, *]) rfl ⟨fun q=>absurd rfl q,fun _=>⟨_,rfl,⟨_,rfl,World.ownsRow_nil _ _ _ _⟩⟩,(HE.out _).2⟩
   ·have hf1:(f != 0)=true:=by simpa using hf
    go_enter func58,ntmps58
    go_wp2_with fail
    refine HP.out.mono ?_
    rintro e w1 ⟨rfl,hb⟩
    have HB:=Fx (ae (dZ HB0.out hb) (.cells #[.string ⟨#[]⟩,.slice none 0 0] 57))
    clear hb HB0
    go_wp2_with fail
    exact⟨rfl,fun _=>rfl,fun q=>absurd q hf,HB.out⟩
 | ok x c =>
   clear hr
   go_enter func58,ntmps58
   go_wp2_with fail
   refine HP.out.mono ?_
   rintro e w1 ⟨cv,rfl,ho,hb⟩
   obtain⟨ad,cap,rfl⟩:=aB ho
   have HB:=Fx (dZ HB0.out hb)
   have HO:=Fx ho
   have zb1:=ZB.out.below hb ZB.out.lt
   have z0:=zb1.cell 0
   have y0:=zb1.frozen 0
   have z1:=zb1.cell 1
   have y1:=zb1.frozen 1
   have zl:=zb1.lt
   simp only[FF] at z0 z1
   have hend:=fun o=>oq zb1 HB.out (.string ⟨x.name.toArray⟩) (.slice ad x.cols.length cap) o
   have HE:=Fx hend
   clear hb ho zb1 ZB HP HB0 HB hend
   go_wp2_with fail
   refine bodyPost_ret (v:=.agg #[.string ⟨x.name.toArray⟩,.slice ad x.cols.length cap]) (by simp [results,results58,go_sem, *]) rfl ⟨_,rfl,⟨_,rfl,(HE.out _).1.ownsRow (World.ownsRow.low HO.out (by simp)) (by decide)⟩,(HE.out _).2⟩
theorem Af (s:ByteArray) (fr:Nat) (w:World) (p:PR cf) (hfr:fr<=s.size) (hs:s.size<=281474976710656) (hr:eN p)
 (hp:∀ W,Below w.heap.size w W->Calls prog 61 #[.string (s.extract fr s.size)] W (kF W p)) :
 Calls prog 60 #[.string s,.int .i64 (fr:Int),.func (.func 61) #[] #[]] w (mD Fj ⟨[],[],[]⟩ fr w p):=by
 have hb0:Below w.heap.size w (w.alloc (.cells #[.string ⟨#[]⟩,.slice none 0 0,.slice none 0 0] 50)):=ae Fy _
 have zb:=af.new w 50 #[.string ⟨#[]⟩,.slice none 0 0,.slice none 0 0]
 have h0:=hp _ hb0
 have HP:=Fx h0
 have HB0:=Fx hb0
 have ZB:=Fx zb
 clear hb0 zb h0 hp
 cases p with
 | bad a f =>
   have hra:=hr a f rfl
   clear hr
   by_cases hf:f=0
   ·subst hf
    go_enter func60,ntmps60
    go_wp2_with fail
    refine HP.out.mono ?_
    rintro e w1 ⟨rfl,hb⟩
    have HB:=Fx (dZ HB0.out hb)
    have zb1:=ZB.out.below hb ZB.out.lt
    have z0:=zb1.cell 0
    have y0:=zb1.frozen 0
    have z1:=zb1.cell 1
    have y1:=zb1.frozen 1
    have z2:=zb1.cell 2
    have y2:=zb1.frozen 2
    have zl:=zb1.lt
    simp only[FF] at z0 z1 z2
    have ZB1:=Fx zb1
    clear hb zb1 ZB HP HB0
    go_wp2_with fail
    have hend:=fun o=>mZ ZB1.out HB.out (.string ⟨#[]⟩) (.slice none 0 0) (.slice none 0 0) o
    have HE:=Fx hend
    clear hend ZB1 HB
    refine bodyPost_ret (v:=.agg #[.string ⟨#[]⟩,.slice none 0 0,.slice none 0 0]) (by simp [results,results60,go_sem, *]) rfl ⟨fun q=>absurd rfl q,fun _=>⟨_,rfl,⟨_,_,rfl,World.ownsRow_nil _ _ _ _,lH _ _⟩⟩,(HE.out _).2⟩
   ·have hf1:(f != 0)=true:=by simpa using hf
    go_enter func60,ntmps60
    go_wp2_with fail
    refine HP.out.mono ?_
    rintro e w1 ⟨rfl,hb⟩
    have HB:=Fx (ae (dZ HB0.out hb) (.cells #[.string ⟨#[]⟩,.slice none 0 0,.slice none 0 0] 50))
    clear hb HB0
    go_wp2_with fail
    exact⟨rfl,fun _=>rfl,fun q=>absurd q hf,HB.out⟩
 | ok x c =>
   clear hr
   go_enter func60,ntmps60
   go_wp2_with fail
   refine HP.out.mono ?_
   rintro e w1 ⟨hv,av,rfl,ho,ho2,hb⟩
   obtain⟨ad,cap,rfl⟩:=aB ho
   obtain⟨ad2,cap2,rfl⟩:=ky ho2
   have HB:=Fx (dZ HB0.out hb)
   have HO:=Fx (And.intro ho ho2)
   have zb1:=ZB.out.below hb ZB.out.lt
   have z0:=zb1.cell 0
   have y0:=zb1.frozen 0
   have z1:=zb1.cell 1
   have y1:=zb1.frozen 1
   have z2:=zb1.cell 2
   have y2:=zb1.frozen 2
   have zl:=zb1.lt
   simp only[FF] at z0 z1 z2
   have hend:=fun o=>mZ zb1 HB.out (.string ⟨x.name.toArray⟩) (.slice ad x.head.length cap) (.slice ad2 x.atoms.length cap2) o
   have HE:=Fx hend
   clear hb ho ho2 zb1 ZB HP HB0 HB hend
   go_wp2_with fail
   refine bodyPost_ret (v:=.agg #[.string ⟨x.name.toArray⟩,.slice ad x.head.length cap,.slice ad2 x.atoms.length cap2]) (by simp [results,results60,go_sem, *]) rfl ⟨_,rfl,⟨_,_,rfl,(HE.out _).1.ownsRow (World.ownsRow.low HO.out.1 (by simp)) (by decide),(HO.out.2.low (by simp)).mt (HE.out _).1 (by decide) (by decide)⟩,(HE.out _).2⟩
theorem zo (wa:Array Value) (hsz:(prog.info? 138).map (·.size)=some wa.size) (hixa:∀ (w:World) (k:Nat),k<19->(Instr.index 138 (.agg wa) (.int .i64 (k:Int))).run prog w=.ok (.string ⟨(ej.getD k []).toArray⟩) w) (t:ak) (w:World) (tt:TypeId) (ff:Nat × Nat) (hw:w.heap[0]? = some (.cells wa tt ff)):Calls prog 56 #[t.v] w fun e w'=>e=.returned (.int .i64 (gq t))/\Below w.heap.size w w':=by
 have hb0:Below w.heap.size w (w.alloc (.cells t.cells.toArray 122)):=ae Fy _
 have bx:=af.new w 122 t.cells.toArray
 have hk:(w.alloc (.cells t.cells.toArray 122)).heap[0]? = some (.cells wa tt ff):=(Below.heap_alloc w _ _ (Array.getElem?_eq_some_iff.1 hw).1).trans hw
 have HNO:=Fx (fun (h:t.k≠1)=>ni h)
 have HHIT:=Fx (fun k (h1:k<19) (h2:t.k=1) (h3:ej.getD k []=t.x)=>zY h1 h2 h3)
 have HMISS:=Fx (fun (h:∀ k,k<19->ej.getD k []≠t.x)=>vM h)
 obtain⟨K,hK⟩:∃ K,gq t=K:=⟨_,rfl⟩
 rw[hK] at HNO HMISS ⊢
 simp only[hK] at HHIT
 clear hK
 obtain⟨tk,x,vk,vn,vt,tp⟩:=t
 unfold ak.cells at hb0 bx hk
 unfold ak.v
 simp only at HNO HHIT HMISS hb0 bx hk ⊢
 have x0:=bx.cell 0
 have x1:=bx.cell 1
 have xl:=bx.lt
 simp only[FF] at x0 x1
 obtain⟨W0,hW0⟩:∃ W0,w.alloc (.cells (List.toArray [.int .i64 tk,.string ⟨x.toArray⟩,.int .i64 vk,.int .i64 vn,.string ⟨vt.toArray⟩,.int .i64 tp]) 122)=W0:=⟨_,rfl⟩
 rw[hW0] at hb0 x0 x1 xl hk
 have HW0:=Fx hW0
 have HB0:=Fx hb0
 have HV:=Fx hk
 have HIX:=Fx hixa
 clear hixa hw
 clear hb0 bx hk hW0
 generalize hxb:(⟨x.toArray⟩:ByteArray)=xb at *
 have HXB:=Fx hxb
 clear hxb
 by_cases h1:tk=1
 ·subst h1
  have HH:=Fx (fun k hk hx=>HHIT.out k hk rfl hx)
  clear HNO HHIT
  go_enter func56,ntmps56
  go_upto_region 1 with fail
  rw[HW0.out]
  go_wp2_with (refine wpList_load_row rfl 138 _ rfl 0 rfl tt wa ff _ HV.out underlying138 rfl hsz ?_)
  go_loopw [9] (fun iv wr=>∃ k:Nat,k<=19/\iv=.int .i64 k/\Hid (wr=W0)/\Hid (∀ j,j<k->ej.getD j []≠x)) (fun iv _=>19 - (intOf iv).toNat)
  case atStart=>exact⟨0,Fz,rfl,Fx rfl,Fx (fun j hj=>by omega)⟩
  case round =>
   obtain⟨k,hk,rfl,HE,HM⟩:=hrel
   obtain rfl:=HE.out
   by_cases hlt:k<19
   ·have hix:=fun w=>HIX.out w k hlt
    obtain⟨y,hy⟩:∃ y,ej.getD k []=y:=⟨_,rfl⟩
    rw[hy] at hix
    have hc1:decide ((k:Int)<19)=true:=by simp;omega
    generalize hyb:(⟨y.toArray⟩:ByteArray)=yb at *
    by_cases hyx:y=x
    ·obtain rfl:xb=yb:=by rw[<-HXB.out,<-hyb,hyx]
     have hr:=HH.out k hlt (hy.trans hyx)
     subst hr
     clear hy hyb hyx HH HMISS
     go_wp2_with fail
     go_ret
     exact⟨by first | rfl | simp,HB0.out⟩
    ·have hne:¬ (yb.toList=xb.toList):=fun e=>hyx (by rw[<-HXB.out,<-hyb] at e;simpa [ByteArray.toList_eq] using e)
     have hnb:(yb.toList == xb.toList)=false:=by simpa using hne
     have hnn:∀ j,j<k+1->ej.getD j []≠x:=fun j hj e=>by
      rcases Nat.lt_or_ge j k with h | h
      ·exact HM.out j h e
      ·obtain rfl:j=k:=by omega
       exact hyx (hy.symm.trans e)
     have HNN:=Fx hnn
     clear hy hyb hyx hnn
     go_wp2_with fail
     go_roundw
     case rel=>exact⟨k+1,by omega,by go_num,Fx trivial,HNN⟩
     case measure=>simp [intOf];omega
   ·obtain rfl:k=19:=by omega
    have hr:=HMISS.out HM.out
    subst hr
    go_wp2_with fail
    go_ret
    exact⟨by first | rfl | simp,HB0.out⟩
 ·have hr:=HNO.out h1
  subst hr
  have hne:(tk == 1)=false:=by simpa using h1
  clear HNO HHIT HMISS h1
  go_enter func56,ntmps56
  go_upto_region 1 with fail
  rw[HW0.out]
  go_wp2_with fail
  go_ret
  exact⟨by first | rfl | simp,HB0.out⟩
theorem uZ (t:ak) (w:World) (hw:dW w):Calls prog 56 #[t.v] w fun e w'=>e=.returned (.int .i64 (gq t))/\Below w.heap.size w w' :=
 zo fX (by kernel_rfl) (fun w k hk=>r6 w k hk) t w _ _ hw.choose_spec.choose_spec
theorem CX (s:ByteArray) (w:World) (hs:s.size<=281474976710656) (hg:bY w) :
 Calls prog 59 #[.string s] w (kz w (AR (gz (aN s.data.toList)))):=by
 unfold gz
 by_cases he:(aN s.data.toList).e=0
 ·rw[if_pos he,qO (cw he).1]
  exact Bw s w hs hg he
 ·rw[if_neg he,tf]
  exact xn s w hs hg he
theorem vG {w:World} {base:Nat} {e:TypeId} {size n:Nat} {v:Value} {xs:List Value} {Ts:List TypeId} {k:Nat} (h:w.ownsRow base e size v n xs) (hk:v.ownBlock=some k) (he:e ∉ Ts):¬ DO w Ts k:=by
 rcases h.2 with ⟨rfl,_⟩ | ⟨g',cap,cur,rfl,_,hh,_⟩
 ·simp [Value.ownBlock] at hk
 ·have:g'=k:=by simpa [Value.ownBlock] using hk
  subst this
  rintro ⟨cs,t,fr,h1,h2⟩
  rw[hh] at h1
  simp only[Option.some.injEq,Obj.cells.injEq] at h1
  exact he (h1.2.1 ▸ h2)
section
variable {B B' n b r ov : Nat} {w w' : World} {bv : Value} {xs : List kS} {Ts : List TypeId}
theorem JB.mt (h:JB B n b r ov w bv xs) (hm:MT B' Ts w w') (h1:118 ∉ Ts) (h2:3 ∉ Ts) (h3:53 ∉ Ts) (h4:68 ∉ Ts) (h5:111 ∉ Ts):JB B n b r ov w' bv xs :=
 ⟨af.mt h.1 hm h1,h.2.1.mt hm h2,h.2.2.1.mt hm h3,h.2.2.2.mt hm h4 h5⟩
theorem JB.keep (h:JB B n b r ov w bv xs) (hb:Below w.heap.size w w'):JB B n b r ov w' bv xs :=
 h.mt (MT.ofBelow (B:=0) (Ts:=[]) hb) (by simp) (by simp) (by simp) (by simp) (by simp)
theorem JB.lt (h:JB B n b r ov w bv xs):∀ k,bv.ownBlock=some k->B<=k/\k<w.heap.size:=by
 obtain⟨_,_,_,rows,h1,_⟩:=h
 exact fun k hk=>World.ownsRow.lt h1 k hk
theorem JB.grown {base size m:Nat} {v:Value} {ys:List Value} (h:JB B n b r ov w bv xs) (hg:w.grownBy w' v.ownBlock) (ho:w.ownsRow base 68 size v m ys) (hap:∀ k,v.ownBlock=some k->bv.ownBlock≠some k):JB B n b r ov w' bv xs:=by
 obtain⟨h1,h2,h3,rows,h4,h5⟩:=h
 have m1:MT 0 [68] w w':=(MT.refl w).grown hg ho (by simp) (Fz)
 exact⟨af.mt h1 m1 (by decide),h2.mt m1 (by decide),h3.mt m1 (by decide),rows,((aq.refl (fun k=>v.ownBlock=some k) w).grown hg (fun k hk _=>hk)).ownsRow h4 (fun k hk e=>hap k e hk),h5.mono fun q a hh=>hh.mt m1 (by decide)⟩
end
def FB (n k:Nat):Prop:=k=n∨n+3<=k
theorem DB {n b r ov:Nat} {w:World} {bv:Value} {xs:List kS} (h:JB (n+3) n b r ov w bv xs):∀ k,F1 n w bv k->FB n k:=by
 rintro k (rfl | h1 | h1)
 ·exact .inl rfl
 ·exact .inr h1.1
 ·exact .inr (h.lt k h1).1
def Fs (n b r ov:Nat) (vt:Value) (w:World):PR (List kS)->Ending->World->Prop
 | .bad a f,e,w'=>e=.panicked [{ v:=aP a f,recovered:=false }]/\aq (FB n) w w'/\∃ bv',af w' n 53 #[bv']
 | .ok xs c',e,w'=>∃ v bv',e=.returned v/\JB (n+3) n b r ov w' bv' xs/\Rs w' r c' vt/\aq (FB n) w w'
theorem Al {n b r ov:Nat} {w:World} {bv:Value} {c:List ak} {vt:Value} (hj:JB (n+3) n b r ov w bv []) (hc:Rs w r c vt) (hB:n+3<=r) (hw:n+3<=w.heap.size) (hov:n+3<=ov) :
 Calls prog 145 #[.pointer (some ⟨r,0,none⟩),.func (.func 143) #[] #[.pointer (some ⟨b,0,none⟩),.pointer (some ⟨n,0,none⟩),.pointer (some ⟨ov,0,none⟩)]] w (Fs n b r ov vt w (aQ eJ c)):=by
 obtain⟨i0,hi0,hz0,hz1,hz2⟩:=info_parts Tryz.infoChg
 have hlen:=hc.len
 have hone0:=oh hj hc FA hB hw hov (by simp;omega)
 have HJ0:=Fx hj
 clear hj hc
 cases hp:eJ c with
 | bad a e =>
   rw[hp] at hone0
   rw[er hp]
   have HO:=Fx hone0
   clear hp hone0
   go_enter func145,ntmps145
   go_wp2_with fail
   refine HO.out.mono ?_
   rintro e' w1 ⟨rfl,hm⟩
   have HM:Hid (aq (FB n) w w1/\∃ bv',af w1 n 53 #[bv']):=Fx ⟨aq.mono hm (fun i _ h=>.inr h.1),_,HJ0.out.2.2.1.mt hm (by decide)⟩
   clear hm
   go_wp2_with fail
   exact⟨rfl,rfl,HM.out⟩
 | ok x c1 =>
   rw[hp] at hone0
   rw[ek hp]
   have HO:=Fx hone0
   have hl1:=kD _ _ _ hp
   clear hp hone0
   have HRES:Hid (bz eJ [x] c1=bz eJ [x] c1):=Fx rfl
   generalize hres:bz eJ [x] c1=RES at HRES ⊢
   clear HRES
   have HRS:=Fx hres
   clear hres
   go_enter func145,ntmps145
   go_wp2_with fail
   refine HO.out.mono ?_
   rintro e' w1 ⟨bv1,rv,rfl,hrv,hj1,hr1,hm,hown1⟩
   have hsz1:=hm.size
   have bk:Below w1.heap.size w1 (w1.alloc (.cells #[.bool x.1.add,.string ⟨x.1.rel.toArray⟩,rv] 68)):=ae Fy _
   have HJ1:=Fx (show JB (n+3) n b r ov _ bv1 [x] from hj1.keep bk)
   have HR1:=Fx (hr1.keep bk)
   have HM1:=Fx ((aq.mono hm (fun i _ h=>DB HJ0.out i h)).alloc (.cells #[.bool x.1.add,.string ⟨x.1.rel.toArray⟩,rv] 68))
   have HO1:=Fx (World.ownsRow_lit (base:=w.heap.size) (e:=68) (size:=3) w1 #[.bool x.1.add,.string ⟨x.1.rel.toArray⟩,rv] 1 hsz1 (by unfold maxLen;omega) rfl)
   have HAP:Hid (∀ k,(Value.slice (some ⟨w1.heap.size,0,none⟩) 1 1).ownBlock=some k->bv1.ownBlock≠some k):=Fx (fun k hk e=>by
    simp [Value.ownBlock] at hk
    subst hk
    have:=(hj1.lt _ e).2
    omega)
   clear hrv hj1 hr1 hm hown1 bk HO
   go_wp2_with fail
   go_loopw [5] (fun v wr=>∃ (ys:List kS) (css:List (List Value)) (cc:List ak) (ad:Option Addr) (cap:Nat) (bw:Value),v=.slice ad ys.length cap/\Hid (wr.ownsRow w.heap.size 68 3 (.slice ad ys.length cap) ys.length css.flatten)/\Hid (JB (n+3) n b r ov wr bw ys)/\Hid (Rs wr r cc vt)/\Hid (aq (FB n) w wr)/\Hid (bz eJ ys cc=RES)/\Hid (∀ k,(Value.slice ad ys.length cap).ownBlock=some k->bw.ownBlock≠some k)/\ys.length+cc.length<=200000) (fun v _=>200000 - (match v with | .slice _ n _=>n | _=>0))
   case atStart=>exact⟨[x],[[.bool x.1.add,.string ⟨x.1.rel.toArray⟩,rv]],c1,some ⟨w1.heap.size,0,none⟩,1,bv1,rfl,HO1,HJ1,HR1,HM1,HRS,HAP,by simp;omega⟩
   case round =>
    obtain⟨ys,css,cc,ad,cap,bw,rfl,OW,JW,RW,MW,RE,AP,hbd⟩:=hrel
    have HIS:=Fx (dh RW.out [44])
    cases him:cV [44] cc with
    | false =>
      have hre:=RE.out
      rw[cY ys him] at hre
      rw[him] at HIS
      subst hre
      clear him
      go_wp2_with fail
      refine HIS.out.mono ?_
      rintro e2 w2 ⟨rfl,hb2⟩
      have HB2:=Fx hb2
      clear hb2
      go_wp2_with fail
      go_ret
      exact⟨_,bw,rfl,JW.out.keep HB2.out,RW.out.keep HB2.out,MW.out.trans (aq.ofBelow (F:=FB n) HB2.out) (fun i _ h=>h)⟩
    | true =>
      obtain⟨t,htk⟩:=fw him
      have hne:1<=cc.length:=by
       cases cc with
       | nil=>simp [cV] at him
       | cons _ _=>simp
      have hdl:(cc.drop 1).length=cc.length - 1:=List.length_drop ..
      rw[him] at HIS
      have HIM:=Fx him
      have HTK:=Fx htk
      clear him htk
      go_wp2_with fail
      refine HIS.out.mono ?_
      rintro e2 w2 ⟨rfl,hb2⟩
      have HMK:=Fx (bf (B:=n+3) (Ts:=[213]) (RW.out.keep hb2) [44] hB (by simp))
      rw[HTK.out] at HMK
      have HB2:=Fx hb2
      clear hb2
      go_wp2_with fail
      refine HMK.out.mono ?_
      rintro e3 w3 ⟨v3,rfl,⟨rfl,hr3⟩,hm3⟩
      have m03:MT (n+3) [213] wr w3:=(MT.ofBelow HB2.out).trans hm3
      have hwr:=MW.out.size
      have hs03:=m03.size
      have hj3:=JW.out.mt m03 (by decide) (by decide) (by decide) (by decide) (by decide)
      have hone3:=oh hj3 hr3 FA hB (by omega) hov (by omega)
      have HJ3:=Fx hj3
      have OW3:=Fx (m03.ownsRow OW.out (by decide))
      have HM3:=Fx (MW.out.trans m03 (fun i _ h=>.inr h.1))
      clear hr3 hm3 m03 hj3
      unfold ak.v
      cases hp:eJ (cc.drop 1) with
      | bad a e =>
        rw[hp] at hone3
        have hre:=RE.out
        rw[ea ys HIM.out hp] at hre
        subst hre
        have HO3:=Fx hone3
        clear hp hone3
        go_wp2_with fail
        refine HO3.out.mono ?_
        rintro e4 w4 ⟨rfl,hm4⟩
        have HM4:Hid (aq (FB n) w w4/\∃ bv',af w4 n 53 #[bv']):=Fx ⟨HM3.out.trans hm4 (fun i _ h=>.inr h.1),_,HJ3.out.2.2.1.mt hm4 (by decide)⟩
        clear hm4
        go_wp2_with fail
        exact⟨rfl,rfl,HM4.out⟩
      | ok x c4 =>
        rw[hp] at hone3
        have hre:=dQ kD ys HIM.out hp
        have hl4:=kD _ _ _ hp
        have hrq:=hre.1
        rw[RE.out] at hrq
        have HRE:=Fx hrq.symm
        have HO3:=Fx hone3
        clear hp hone3 hre hrq
        go_wp2_with fail
        refine HO3.out.mono ?_
        rintro e4 w4 ⟨bv4,rv4,rfl,hrv4,hj4,hr4,hm4,hown4⟩
        have ho4:=hm4.ownsRow OW3.out (fun k hk hf=>by
         rcases hf with rfl | hf | hf
         ·exact aE OW3.out HJ3.out.2.2.1 (by decide) hk
         ·exact vG OW3.out hk (by decide) hf.2
         ·exact AP.out k hk hf)
        have hap4:∀ k,(Value.slice ad ys.length cap).ownBlock=some k->bv4.ownBlock≠some k:=fun k hk e=>by
         rcases hown4 k e with h | h
         ·exact AP.out k hk h
         ·have:=(World.ownsRow.lt OW3.out k hk).2
          omega
        have HO4:=Fx ho4
        have HAP4:=Fx hap4
        have HM4:=Fx (HM3.out.trans hm4 (fun i _ h=>DB HJ3.out i h))
        have hsz4:=HM4.out.size
        have HRV4:=Fx hrv4
        have HJ4:=Fx hj4
        have HR4:=Fx hr4
        clear ho4 hap4 hrv4 hj4 hr4 hm4 hown4
        generalize x.1.add=xa at *
        go_wp2_with (at_builtin;refine wpList_append_lies _ rfl (.tmp 13) (.tmp 16) 53 rfl w.heap.size 68 i0 (.agg #[.bool false,.string ⟨#[]⟩,.slice none 0 0]) 3 48 underlying53 hi0 hz0 hz1 hz2 rfl (by decide) (.slice ad ys.length cap) ys.length _ rfl (HO4.out.alloc _) ⟨_,0,none⟩ 1 1 [.bool xa,.string ⟨x.1.rel.toArray⟩,rv4] rfl rfl (World.news_of_block (af.new _ _ _)) (by intro z hz;simp only[List.mem_cons,List.not_mem_nil,or_false] at hz;rcases hz with rfl | rfl | rfl;rfl;rfl;exact HRV4.out) (by decide) ?c3 ?c5 ?c4 _ rfl ?_)
        case c3=>unfold maxLen;omega
        case c5=>omega
        case c4=>simp;omega
        intro g cap1 w5 hown2 hgrow2 hat2 hlt2
        have bk:Below w4.heap.size w4 (w4.alloc (.cells #[.bool xa,.string ⟨x.1.rel.toArray⟩,rv4] 68)):=ae Fy _
        have hj5:=(HJ4.out.keep bk).grown hgrow2 (HO4.out.alloc _) HAP4.out
        have m45:MT 0 [68] w4 w5:=((MT.refl w4).alloc _).grown hgrow2 (HO4.out.alloc _) (by simp) (Fz)
        have hr5:=HR4.out.mt m45 (by decide) (by decide)
        have hm5:aq (FB n) w w5:=(HM4.out.alloc _).grown hgrow2 (fun k hk _=>.inr (by have:=(World.ownsRow.lt HO4.out k hk).1;omega))
        have hap5:∀ k,(Value.slice (some ⟨g,0,none⟩) (ys.length+1) cap1).ownBlock=some k->bv4.ownBlock≠some k:=fun k hk e=>by
         simp [Value.ownBlock] at hk
         subst hk
         rcases hat2 with h | h
         ·exact HAP4.out _ h e
         ·have:=(HJ4.out.lt _ e).2
          omega
        have HO5:=Fx hown2
        have HJ5:=Fx hj5
        have HR5:=Fx hr5
        have HM5:=Fx hm5
        have HAP5:=Fx hap5
        clear hown2 hgrow2 hat2 hlt2 bk hj5 m45 hr5 hm5 hap5
        go_wp2_with fail
        go_roundw
        case rel =>
         refine⟨ys++[x],css++[[.bool xa,.string ⟨x.1.rel.toArray⟩,rv4]],c4,some ⟨g,0,none⟩,cap1,bv4,by simp,Fx ?_,HJ5,HR5,HM5,HRE,Fx ?_,by simp;omega⟩
         ·have:=HO5.out
          simpa [List.flatten_append] using this
         ·simpa using HAP5.out
        case measure=>simp;omega
theorem vp (s:ByteArray) (w:World) (ts:List ak) (hop:∀ W,Below w.heap.size w W->Calls prog 54 #[.string s] W fun e w'=>∃ r vt,e=.returned (.pointer (some ⟨r,0,none⟩))/\W.heap.size<=r/\Rs w' r ts vt/\Below W.heap.size W w') :
 Calls prog 63 #[.string s] w (kr w (fv ts)):=by
 have hmf:∀ (fn:Fn) (first cap:Array Value) (w:World),(Instr.makeFunc fn first cap).run prog w=.ok (.func fn first cap) w:=fun _ _ _ _=>rfl
 have hf0:∀ (a b c d e f:Value) (w:World),(Instr.field 122 (.agg #[a,b,c,d,e,f]) 0).run prog w=.ok a w:=fun _ _ _ _ _ _ _=>by kernel_rfl
 have hps:=PB.start w
 have ho:=hop _ hps.b
 have HPS:=Fx hps
 have HO:=Fx ho
 obtain⟨Q,hQ⟩:∃ Q,Q=fv ts:=⟨_,rfl⟩
 rw[<-hQ]
 have HQ:=Fx hQ
 clear hps ho hop hQ
 go_enter_defers func63,ntmps63
 go_wp2_with fail
 refine HO.out.mono ?_
 rintro e w1 ⟨r,vt,rfl,hr,hrs,hb⟩
 have hp:=HPS.out.keep hb
 have hrB:w.heap.size+3<=r:=by simp at hr;omega
 have bk:Below w1.heap.size w1 ((w1.alloc (.cells #[.pointer (some ⟨r,0,none⟩)] 118)).alloc (.cells #[.int .i64 (-1)] 3)):=ae (ae Fy _) _
 have hp1:=hp.keep bk
 have hi:dD ((w1.alloc (.cells #[.pointer (some ⟨r,0,none⟩)] 118)).alloc (.cells #[.int .i64 (-1)] 3)) w1.heap.size r:=(af.new _ _ _).alloc _
 have hob:=cM w1 (.cells #[.pointer (some ⟨r,0,none⟩)] 118) 3 #[.int .i64 (-1)]
 have hjb:JB (w.heap.size+3) w.heap.size w1.heap.size r (w1.heap.size+1) ((w1.alloc (.cells #[.pointer (some ⟨r,0,none⟩)] 118)).alloc (.cells #[.int .i64 (-1)] 3)) (.slice none 0 0) [] :=
  ⟨hi,hob,hp1.q,[],World.ownsRow_nil _ _ _ _,trivial⟩
 have hr1:=hrs.keep bk
 have hnb:w.heap.size+3<=w1.heap.size:=hp.s
 have hl0:=hrs.len
 obtain⟨ts',i',_,_,hend⟩:=hrs
 obtain⟨t,c,rfl⟩:=hend.some
 have HPK:=Fx (qu hr1)
 have HP1:=Fx hp1
 have HJ1:=Fx hjb
 have HR1:=Fx hr1
 have hib:=af.lt hi
 have hobl:=hob.lt
 have x0:=af.cell hi 0
 have o0:=hob.cell 0
 simp only[List.getElem?_toArray,List.getElem?_cons_zero] at x0 o0
 clear hb hp hr bk hp1 hi hob hjb hr1 hend HPS HO
 obtain⟨W2,hW2⟩:∃ W2,(w1.alloc (.cells #[.pointer (some ⟨r,0,none⟩)] 118)).alloc (.cells #[.int .i64 (-1)] 3)=W2:=⟨_,rfl⟩
 rw[hW2] at HPK HP1 HJ1 HR1 x0 o0 hib hobl
 have HW2:=Fx hW2
 clear hW2
 by_cases ht:t.k=0
 case' pos =>
  have hcs:fo (t::c)=.ok [] (t::c):=by
   unfold fo
   rw[if_pos (by simp [Cs,ht])]
  have htk0:(t.k != 0)=false:=by simp [ht]
  have HCS:=Fx hcs
  clear hcs
  go_wp2_with fail
  rw[HW2.out]
  refine HPK.out.mono ?_
  rintro e w3 ⟨rfl,hb3⟩
  have h3:∃ (l:List kS) (c1:List ak) (bv:Value),fo (t::c)=.ok l c1/\PB w w.heap.size bv w3/\JB (w.heap.size+3) w.heap.size w1.heap.size r (w1.heap.size+1) w3 bv l/\Rs w3 r c1 vt :=
   ⟨_,_,_,HCS.out,HP1.out.keep hb3,HJ1.out.keep hb3,HR1.out.keep hb3⟩
  clear HCS
  obtain⟨l,c1,bv',hcs,hp3,hj3,hr3⟩:=h3
  have HCS:=Fx hcs
  have HP3:=Fx hp3
  have HJ3:=Fx hj3
  have HR3:=Fx hr3
  have x03:=af.cell hj3.1 0
  have xl3:=af.lt hj3.1
  simp only[List.getElem?_toArray,List.getElem?_cons_zero] at x03
  clear hcs hp3 hj3 hr3
  clear hb3 HPK HP1 HJ1 HR1
  unfold ak.v
  go_wp2_with fail
 case' neg =>
  have hcs:fo (t::c)=aQ eJ (t::c):=by
   unfold fo
   rw[if_neg (by simp [Cs,ht])]
  have htk0:(t.k != 0)=true:=by simpa using ht
  have HCS0:=Fx hcs
  clear hcs
  go_wp2_with fail
  rw[HW2.out]
  refine HPK.out.mono ?_
  rintro e w2 ⟨rfl,hb3⟩
  have hj2:=HJ1.out.keep hb3
  have x02:=af.cell hj2.1 0
  have xl2:=af.lt hj2.1
  simp only[List.getElem?_toArray,List.getElem?_cons_zero] at x02
  have HP2:=Fx (HP1.out.keep hb3)
  have hsm:=Al hj2 (HR1.out.keep hb3) hrB HP2.out.s (by omega)
  clear hb3 HPK HP1 HJ1 HR1 hj2
  unfold ak.v
  cases hsp:aQ eJ (t::c)
  case bad a e =>
   have hq:=HQ.out
   rw[lU (HCS0.out.trans hsp)] at hq
   subst hq
   rw[hsp] at hsm
   have HSM:=Fx hsm
   clear hsm hsp
   go_wp2_with fail
   refine HSM.out.mono ?_
   rintro e wx ⟨rfl,hm,bv',hq⟩
   have HPX:=Fx (HP2.out.mod hm (fun k h=>h) hq)
   clear hm hq
   go_wp2_with fail
   exact gF HPX.out rfl rfl rfl
  case' ok l c1 =>
   have hcs:=HCS0.out.trans hsp
   rw[hsp] at hsm
   have HSM:=Fx hsm
   have HCS:=Fx hcs
   clear hsm hsp hcs
   go_wp2_with fail
   refine HSM.out.mono ?_
   rintro e w3 ⟨v3,bv',rfl,hj3,hr3,hm3⟩
   have HP3:=Fx (HP2.out.mod hm3 (fun k h=>h) hj3.2.2.1)
   have HJ3:=Fx hj3
   have HR3:=Fx hr3
   have x03:=af.cell hj3.1 0
   have xl3:=af.lt hj3.1
   simp only[List.getElem?_toArray,List.getElem?_cons_zero] at x03
   clear hj3 hr3 hm3
   go_wp2_with fail
 all_goals
  have htk:=cN (B:=w.heap.size+3) (Ts:=[213]) HR3.out 0 [] _ (eE _) hrB (by simp)
  have hbv:∃ ba bc,bv'=.slice ba l.length bc:=by
   obtain⟨_,_,_,brows,bown,_⟩:=HJ3.out
   obtain⟨ba,bc,e⟩:=aB bown
   exact⟨ba,bc,by rw[e,List.length_map]⟩
  obtain⟨ba,bc,rfl⟩:=hbv
  cases h0:tk 0 [] c1 with
  | bad a e =>
    have hq:=HQ.out
    rw[lS HCS.out h0] at hq
    subst hq
    rw[h0] at htk
    have HTK:=Fx htk
    clear htk h0
    refine HTK.out.mono ?_
    rintro e wx ⟨rfl,hm⟩
    have HPX:=Fx (HP3.out.mt hm)
    clear hm
    go_wp2_with fail
    exact gF HPX.out rfl rfl rfl
  | ok u c2 =>
    have hq:=HQ.out
    rw[lG HCS.out h0] at hq
    have HQ2:=Fx hq
    rw[h0] at htk
    have HTK:=Fx htk
    clear htk h0 hq
    refine HTK.out.mono ?_
    rintro e w5 ⟨v5,rfl,⟨rfl,hr5⟩,hm5⟩
    have hp5:=HP3.out.mt hm5
    obtain⟨_,hob3,_,hown3⟩:=HJ3.out
    have hob5:=hob3.mt hm5 (by decide)
    have o0:=hob5.cell 0
    have ol:=hob5.lt
    simp only[List.getElem?_toArray,List.getElem?_cons_zero] at o0
    have HOW5:=Fx (hown3.mt hm5 (by decide) (by decide))
    have HP5:=Fx hp5
    clear hr5 hm5 hp5 hob3 hob5 hown3 HTK HJ3 HR3 HP3 x03 xl3
    unfold ak.v
    obtain⟨op,hop⟩:∃ op,dg l=op:=⟨_,rfl⟩
    rw[hop] at o0
    have HOP:=Fx hop
    clear hop
    by_cases hov:0<=op
    ·have hq:=HQ2.out
     unfold tT at hq
     rw[HOP.out,if_pos hov] at hq
     subst hq
     have hd:decide (0<=op)=true:=decide_eq_true hov
     go_wp2_with fail
     exact gF HP5.out rfl rfl rfl
    ·have hq:=HQ2.out
     unfold tT at hq
     rw[HOP.out,if_neg hov] at hq
     subst hq
     have hd:decide (0<=op)=false:=decide_eq_false hov
     have z0:=HP5.out.q.cell 0
     have z3:=HP5.out.a.cell 0
     have z4:=HP5.out.e.cell 0
     simp only[List.getElem?_toArray,List.getElem?_cons_zero] at z0 z3 z4
     have u0:=HP5.out.q.frozen 0
     have u3:=HP5.out.a.frozen 0
     have u4:=HP5.out.e.frozen 0
     have hnl14:=HP5.out.q.lt
     have hna14:=HP5.out.a.lt
     have hne14:=HP5.out.e.lt
     obtain⟨hfin,mfin⟩:=HP5.out.fin
     have hpost:kr w (.ok (l.map (·.1)) []) (.returned (.tuple #[.slice ba l.length bc,.int .i64 0,.int .i64 0])) _:=⟨_,rfl,(HOW5.out.mt mfin (by decide) (by decide)).low (by omega),hfin.b⟩
     have HFIN:=Fx hfin
     have HPOST:=Fx hpost
     clear hfin mfin hpost
     go_wp2_with fail
     exact vV HFIN.out rfl rfl rfl rfl HPOST.out
theorem vH (s:ByteArray) (w:World) (hs:s.size<=281474976710656) (hg:bY w) (he:(aN s.data.toList).e=0) :
 Calls prog 63 #[.string s] w (kr w (fv (aN s.data.toList).ts)) :=
 vp s w _ fun W hb=>iM s W hs (hg.below hb) he
theorem tr (s:ByteArray) (w:World) (hs:s.size<=281474976710656) (hg:bY w) (he:(aN s.data.toList).e≠0) :
 Calls prog 63 #[.string s] w (kr w (.bad (aN s.data.toList).at_ (aN s.data.toList).e)) :=
 xS s w _ _ fun W hb=>mP s W hs (hg.below hb) he
def gK (s:List UInt8):PR (List eP):=if (aN s).e=0 then fv (aN s).ts else .bad (aN s).at_ (aN s).e
theorem zq (s:ByteArray) (w:World) (hs:s.size<=281474976710656) (hg:bY w) :
 Calls prog 63 #[.string s] w (kr w (gK s.data.toList)):=by
 unfold gK
 by_cases he:(aN s.data.toList).e=0
 ·rw[if_pos he]
  exact vH s w hs hg he
 ·rw[if_neg he]
  exact tr s w hs hg he
theorem tY (l:List UInt8):match gK l with
 | .bad a e=>0<=a/\a<=l.length/\e≠0
 | .ok b _=>b.length<=256/\∀ c∈b,ai c.rel=true/\∀ u∈c.row,ax u.k u.n u.t=true/\bG u:=by
 unfold gK
 by_cases he:(aN l).e=0
 ·rw[if_pos he]
  exact tw (pG he (cw he).1)
 ·rw[if_neg he]
  have:=uw l he
  exact⟨this.1,this.2,he⟩
structure CF (w0 w:World) (cs:Array Value) (b tb r:Nat) (c:List ak) (vt:Value) (tkk vk vn tp:Int) (xb vb:ByteArray):Prop where
 p:nu w0 w0.heap.size cs w
 i:dD w b r
 k:af w tb 122 #[.int .i64 tkk,.string xb,.int .i64 vk,.int .i64 vn,.string vb,.int .i64 tp]
 rs:Rs w r c vt
 hr:w0.heap.size+3<=r
 hb:w0.heap.size+3<=b
 ht:w0.heap.size+3<=tb
section
variable {w0 w w' : World} {cs : Array Value} {b tb r : Nat} {c c' : List ak} {vt : Value} {tkk vk vn tp : Int} {xb vb : ByteArray}
theorem CF.keep (h:CF w0 w cs b tb r c vt tkk vk vn tp xb vb) (hb:Below w.heap.size w w'):CF w0 w' cs b tb r c vt tkk vk vn tp xb vb :=
 ⟨h.p.keep hb,af.below h.i hb (af.lt h.i),h.k.below hb h.k.lt,h.rs.keep hb,h.hr,h.hb,h.ht⟩
theorem CF.take (h:CF w0 w cs b tb r c vt tkk vk vn tp xb vb) (hm:MT (w0.heap.size+3) [213] w w') (hr:Rs w' r c' vt):CF w0 w' cs b tb r c' vt tkk vk vn tp xb vb :=
 ⟨h.p.mt hm,af.mt h.i hm (by decide),h.k.mt hm (by decide),hr,h.hr,h.hb,h.ht⟩
theorem CF.store (h:CF w0 w cs b tb r c vt tkk vk vn tp xb vb) (i:Nat) (u:Value):CF w0 (w.setCell ⟨w0.heap.size,i,none⟩ u) (cs.setIfInBounds i u) b tb r c vt tkk vk vn tp xb vb:=by
 have h1:=h.hb
 have h2:=h.ht
 have m:MT 0 [61] w (w.setCell ⟨w0.heap.size,i,none⟩ u):=MT.setCell (MT.refl w) h.p.q (by simp) (Fz) _
 exact⟨h.p.store i u,af.mt h.i m (by decide),h.k.mt m (by decide),h.rs.mt m (by decide) (by decide),h.hr,h.hb,h.ht⟩
end
theorem lw {α:Type} {R:Nat->World->Value->α->Prop} {z:α} {fr:Int} {w w':World} {p:PR α} {e:Ending} (h:mD R z fr w p e w') (f:α->mf) :
 (∃ a e0,e=.panicked [{ v:=aP (fr+a) e0,recovered:=false }]/\di fr z p f=.bad (fr+a) e0/\Below w.heap.size w w')∨(∃ v x,e=.returned v/\R w.heap.size w' v x/\di fr z p f=.ok (f x) []/\Below w.heap.size w w'):=by
 cases p with
 | bad a e0 =>
   obtain⟨h1,h2,h3⟩:=h
   by_cases q:e0=0
   ·obtain⟨v,h4,h5⟩:=h2 q
    exact .inr ⟨v,z,h4,h5,by unfold di;simp [q],h3⟩
   ·exact .inl ⟨a,e0,h1 q,by unfold di;simp [q],h3⟩
 | ok x c =>
   obtain⟨v,h1,h2,h3⟩:=h
   exact .inr ⟨v,x,h1,h2,rfl,h3⟩
theorem pX {t:ak} (h:gq t≠0):t.k=1:=Decidable.byContradiction fun q=>h (ni q)
theorem nu.self {w0 w:World} {n:Nat} {x0 x1 x2 x3 x4 x5 x6 x7 x8 x9 x10:Value} (h:nu w0 n #[x0,x1,x2,x3,x4,x5,x6,x7,x8,x9,x10] w) :
 ((((((((((w.setCell ⟨n,0,none⟩ x0).setCell ⟨n,1,none⟩ x1).setCell ⟨n,2,none⟩ x2).setCell ⟨n,3,none⟩ x3).setCell ⟨n,4,none⟩ x4).setCell ⟨n,5,none⟩ x5).setCell ⟨n,6,none⟩ x6).setCell ⟨n,7,none⟩ x7).setCell ⟨n,8,none⟩ x8).setCell ⟨n,9,none⟩ x9).setCell ⟨n,10,none⟩ x10=w:=by
 rw[aS (i:=0) (v:=x0) h.q rfl,aS (i:=1) (v:=x1) h.q rfl,aS (i:=2) (v:=x2) h.q rfl,aS (i:=3) (v:=x3) h.q rfl,aS (i:=4) (v:=x4) h.q rfl,aS (i:=5) (v:=x5) h.q rfl,aS (i:=6) (v:=x6) h.q rfl,aS (i:=7) (v:=x7) h.q rfl,aS (i:=8) (v:=x8) h.q rfl,aS (i:=9) (v:=x9) h.q rfl,aS (i:=10) (v:=x10) h.q rfl]
def pS (l:List UInt8):PR aU:=AR (gz (aN l))
def pQ (l:List UInt8):PR cf:=zI (gz (aN l))
theorem CN (l:List UInt8):match pS l with
 | .bad a e=>0<=a/\a<=l.length/\e≠0
 | .ok r _=>cr r.name r.cols=0:=by
 unfold pS gz
 by_cases he:(aN l).e=0
 ·rw[if_pos he,qO (cw he).1]
  exact yt (zS he (cw he).1)
 ·rw[if_neg he,tf]
  exact⟨(i7 l he).1,(i7 l he).2,he⟩
theorem CL (l:List UInt8):match pQ l with
 | .bad a e=>0<=a/\a<=l.length/\e≠0
 | .ok q _=>ed q/\fq q:=by
 unfold pQ gz
 by_cases he:(aN l).e=0
 ·rw[if_pos he,qP (cw he).1]
  exact tF (pG he (cw he).1)
 ·rw[if_neg he,tM]
  exact⟨(i7 l he).1,(i7 l he).2,he⟩
theorem Ec (s:ByteArray) (w:World) (hs:s.size<=281474976710656) (hg:bY w) :
 Calls prog 61 #[.string s] w (kF w (pQ s.data.toList)):=by
 unfold pQ gz
 by_cases he:(aN s.data.toList).e=0
 ·rw[if_pos he,qP (cw he).1]
  exact vW s w hs hg he
 ·rw[if_neg he,tM]
  exact sO s w hs hg he
theorem rK (s:ByteArray) (n:Nat) (h:n<=s.size):(s.extract n s.size).data.toList=s.data.toList.drop n/\(s.extract n s.size).size<=s.size:=by
 have hl:s.data.toList.length=s.size:=rfl
 have e:(s.extract n s.size).data.toList=s.data.toList.drop n:=by
  rw[Lib.extract_data]
  exact List.take_of_length_le (by rw[List.length_drop];omega)
 refine⟨e,?_⟩
 have h2:(s.extract n s.size).size=(s.extract n s.size).data.toList.length:=rfl
 rw[h2,e,List.length_drop]
 omega
theorem xA {l:List UInt8} {t:ak} {c:List ak} (h:(aN l).e=0) (hts:(aN l).ts=t::c) (hk:t.k≠0):0<=t.p/\t.p.toNat+t.x.length<=l.length/\l.length<=16384:=by
 by_cases hl:16384<l.length
 ·rw[gy hl] at h;simp at h
 ·rw[cR (by omega)] at h hts
  have:=Au l l.length 0 (Fz) (by omega)
  rw[List.drop_zero,hts] at this
  have ht:=this h
  cases ht with
  | last=>exact absurd rfl hk
  | more h1 hp hb h2 hx h3 hk hr=>exact⟨by omega,by omega,by omega⟩
theorem Dl {K:Int} (s:ByteArray) (w:World) (t:ak) (c:List ak) (hgw:∀ W,Below w.heap.size w W->dW W)
 (hop:∀ W,Below w.heap.size w W->Calls prog 54 #[.string s] W fun e w'=>∃ r vt,e=.returned (.pointer (some ⟨r,0,none⟩))/\W.heap.size<=r/\Rs w' r (t::c) vt/\Below W.heap.size W w')
 (hk:gq t=K) (h0p:0<=t.p) (h1p:t.p+(⟨t.x.toArray⟩:ByteArray).size<=281474976710656)
 (K14:K=1∨K=2∨K=4)
 (fr:Nat) (hfr:(fr:Int)=t.p+(⟨t.x.toArray⟩:ByteArray).size) (hfs:fr<=s.size) (hss:s.size<=281474976710656)
 (pS0:PR aU) (plS:eN pS0) (ppS:∀ W,Below w.heap.size w W->Calls prog 59 #[.string (s.extract fr s.size)] W (kz W pS0))
 (pQ0:PR cf) (plQ:eN pQ0) (ppQ:∀ W,Below w.heap.size w W->Calls prog 61 #[.string (s.extract fr s.size)] W (kF W pQ0))
 (pB0:PR (List eP)) (plB:eN pB0) (ppB:∀ W,Below w.heap.size w W->Calls prog 63 #[.string (s.extract fr s.size)] W (kr W pB0)) :
 Calls prog 22 #[.string s] w (qo w (if K=1 then di (fr:Int) ⟨[],[]⟩ pS0 fun x => { eD with kind:=1,rel:=x }
 else if K=2 then di (fr:Int) ⟨[],[],[]⟩ pQ0 fun x => { eD with kind:=2,q:=x }
 else di (fr:Int) [] pB0 fun x => { eD with kind:=4,b:=x })):=by
 have hmf:∀ (fn:Fn) (first cap:Array Value) (w:World),(Instr.makeFunc fn first cap).run prog w=.ok (.func fn first cap) w:=fun _ _ _ _=>rfl
 have hps:=nu.start w
 have ho:=hop _ hps.b
 have HPS:=Fx hps
 have HO:=Fx ho
 have HGW:=Fx hgw
 have HKD:=Fx (fun W hW=>uZ t W hW)
 rw[hk] at HKD
 have hk1:t.k=1:=pX (by rw[hk];omega)
 have hK0b:(K == 0)=false:=by rcases K14 with rfl | rfl | rfl<;>rfl
 obtain⟨RES,hRES⟩:∃ RES,(if K=1 then di (fr:Int) ⟨[],[]⟩ pS0 fun x => { eD with kind:=1,rel:=x }
  else if K=2 then di (fr:Int) ⟨[],[],[]⟩ pQ0 fun x => { eD with kind:=2,q:=x }
  else di (fr:Int) [] pB0 fun x => { eD with kind:=4,b:=x })=RES:=⟨_,rfl⟩
 rw[hRES]
 have HRES:=Fx hRES
 have htk0:∀ (W:World) (r:Nat) (vt:Value),Rs W r (t::c) vt->w.heap.size+3<=r->Calls prog 57 #[.pointer (some ⟨r,0,none⟩),.int .i64 1,.slice none 0 0] W (aX (fun t c' v w'=>v=t.v/\Rs w' r c' vt) (w.heap.size+3) [213] W (tk 1 [] (t::c))):=fun W r vt h hB=>cN (B:=w.heap.size+3) (Ts:=[213]) h 1 [] _ (eE _) hB (by simp)
 have htt:tk 1 [] (t::c)=.ok t c:=by
  unfold tk
  simp [hk1]
 rw[htt] at htk0
 clear htt
 have HTK0:=Fx htk0
 clear hps ho hop hgw hRES htk0 hk hk1
 obtain⟨tkk,x,vk,vn,vs,tp⟩:=t
 simp only at h0p h1p
 unfold ak.v at HKD HTK0
 generalize hxb:(⟨x.toArray⟩:ByteArray)=xb at *
 generalize hvb:(⟨vs.toArray⟩:ByteArray)=vb at *
 have HXB:=Fx (And.intro hxb hvb)
 clear hxb hvb
 simp only at HKD
 go_enter_defers func22,ntmps22
 go_wp2_with fail
 refine HO.out.mono ?_
 rintro e w1 ⟨r,vt,rfl,hr,hrs,hb⟩
 have hp:=HPS.out.keep hb
 have hrB:w.heap.size+3<=r:=by simp at hr;omega
 have bk:Below w1.heap.size w1 (w1.alloc (.cells #[.pointer (some ⟨r,0,none⟩)] 118)):=ae Fy _
 have hp1:=hp.keep bk
 have hi1:dD (w1.alloc (.cells #[.pointer (some ⟨r,0,none⟩)] 118)) w1.heap.size r:=af.new _ _ _
 have hr1:=hrs.keep bk
 have hpk:=qu hr1
 have hbB:w.heap.size+3<=w1.heap.size:=hp.s
 have x0:=af.cell hi1 0
 have xl:=af.lt hi1
 simp only[List.getElem?_toArray,List.getElem?_cons_zero] at x0
 unfold ak.v at hpk
 simp only[HXB.out.1,HXB.out.2] at hpk
 obtain⟨W2,hW2⟩:∃ W2,w1.alloc (.cells #[.pointer (some ⟨r,0,none⟩)] 118)=W2:=⟨_,rfl⟩
 rw[hW2] at hpk hp1 hi1 hr1 x0 xl
 have HW2:=Fx hW2
 have HPK:=Fx hpk
 have HP1:=Fx hp1
 have HI1:=Fx hi1
 have HR1:=Fx hr1
 clear hb hp hrs bk hp1 hi1 hr1 hpk hr hW2 HPS HO
 go_wp2_with fail
 rw[HW2.out]
 refine HPK.out.mono ?_
 rintro e w2 ⟨rfl,hb2⟩
 have bx:=af.new w2 122 #[.int .i64 tkk,.string xb,.int .i64 vk,.int .i64 vn,.string vb,.int .i64 tp]
 have bk2:Below w2.heap.size w2 (w2.alloc (.cells #[.int .i64 tkk,.string xb,.int .i64 vk,.int .i64 vn,.string vb,.int .i64 tp] 122)):=ae Fy _
 have hf:CF w (w2.alloc (.cells #[.int .i64 tkk,.string xb,.int .i64 vk,.int .i64 vn,.string vb,.int .i64 tp] 122)) #[.int .i64 0,.string ⟨#[]⟩,.slice none 0 0,.string ⟨#[]⟩,.slice none 0 0,.slice none 0 0,.slice none 0 0,.string ⟨#[]⟩,.int .i64 0,.int .i64 0,.slice none 0 0] w1.heap.size w2.heap.size r (⟨tkk,x,vk,vn,vs,tp⟩::c) vt tkk vk vn tp xb vb:=⟨(HP1.out.keep hb2).keep bk2,(af.below HI1.out hb2 (af.lt HI1.out)).below bk2 (by have:=hb2.size;omega),bx,(HR1.out.keep hb2).keep bk2,hrB,hbB,Nat.le_trans hbB (Nat.le_trans (Nat.le_of_lt xl) hb2.size)⟩
 have hkd:=HKD.out _ (HGW.out _ (hf.p.b))
 obtain⟨W3,hW3⟩:∃ W3,w2.alloc (.cells #[.int .i64 tkk,.string xb,.int .i64 vk,.int .i64 vn,.string vb,.int .i64 tp] 122)=W3:=⟨_,rfl⟩
 rw[hW3] at hf hkd
 have HW3:=Fx hW3
 have HKD3:=Fx hkd
 have HF3:=Fx hf
 have z0:=hf.k.cell 0
 have z1:=hf.k.cell 1
 have z2:=hf.k.cell 2
 have z3:=hf.k.cell 3
 have z4:=hf.k.cell 4
 have z5:=hf.k.cell 5
 have zl:=hf.k.lt
 simp only[FF] at z0 z1 z2 z3 z4 z5
 clear bx bk2 hb2 hkd hf hW3 x0 xl HPK HP1 HI1 HR1 HKD HGW HW2
 go_upto_region 4 with fail
 rw[HW3.out]
 go_wp2_with fail
 refine HKD3.out.mono ?_
 rintro e w4 ⟨rfl,hb4⟩
 have hf4:=HF3.out.keep hb4
 have x0:=af.cell hf4.i 0
 have xl:=af.lt hf4.i
 have pl:=hf4.p.q.lt
 have k0:=hf4.p.q.cell 0
 have y0:=hf4.p.q.frozen 0
 have z1:=hf4.k.cell 1
 have z5:=hf4.k.cell 5
 have zl:=hf4.k.lt
 simp only[FF] at x0 k0 z1 z5
 have hf5:CF w (w4.setCell ⟨w.heap.size,0,none⟩ (.int .i64 K)) #[.int .i64 K,.string ⟨#[]⟩,.slice none 0 0,.string ⟨#[]⟩,.slice none 0 0,.slice none 0 0,.slice none 0 0,.string ⟨#[]⟩,.int .i64 0,.int .i64 0,.slice none 0 0] w1.heap.size w2.heap.size r (⟨tkk,x,vk,vn,vs,tp⟩::c) vt tkk vk vn tp xb vb:=hf4.store 0 (.int .i64 K)
 have HF5:=Fx hf5
 clear hf4 hf5 hb4 HF3 HKD3 HW3 z0 z2 z3 z4
 have htk:=HTK0.out _ r vt HF5.out.rs hrB
 have HTK:=Fx htk
 clear htk HTK0
 have xl5:=af.lt HF5.out.i
 go_wp2_with fail
 refine HTK.out.mono ?_
 rintro e w6 ⟨v6,rfl,⟨rfl,hr6⟩,hm6⟩
 have hf6:=HF5.out.take hm6 hr6
 have HF6:=Fx hf6
 clear hm6 hr6 hf6 x0 xl pl k0 y0 z1 z5 zl xl5 HTK HF5
 have x0:=af.cell HF6.out.i 0
 have xl:=af.lt HF6.out.i
 have pl:=HF6.out.p.q.lt
 have k0:=HF6.out.p.q.cell 0
 have y0:=HF6.out.p.q.frozen 0
 have z1:=HF6.out.k.cell 1
 have z5:=HF6.out.k.cell 5
 have zl:=HF6.out.k.lt
 simp only[FF] at x0 k0 z1 z5
 rcases K14 with rfl | rfl | rfl
 ·have hin:=Bd s fr _ pS0 hfs hss plS (fun W hW=>ppS W (HF6.out.p.b.trans (hW.mono (by have:=HF6.out.p.s;omega))))
  rw[hfr] at hin
  have HIN:=Fx hin
  have HFR:=Fx hfr
  have hre0:=HRES.out
  simp only[if_true] at hre0
  have HRE:=Fx hre0
  clear hin plS ppS plQ ppQ plB ppB hfs hss hfr hre0 HRES
  go_wp2_with fail
  refine HIN.out.mono ?_
  rintro e w7 hin
  rw[<-HFR.out] at hin
  rcases lw hin _ with ⟨a,e0,rfl,hre,hb7⟩ | ⟨v,x7,rfl,hR,hre,hb7⟩
  ·have hr2:=HRE.out.symm.trans hre
   subst hr2
   have HPX:=Fx (HF6.out.p.keep hb7)
   clear HRE hre hin HIN hb7
   go_wp2_with fail
   exact nr HPX.out rfl rfl rfl
  have hr2:=HRE.out.symm.trans hre
  subst hr2
  clear HRE hre hin HIN
  obtain⟨cv,rfl,ho⟩:=hR
  obtain⟨ad,cap,rfl⟩:=aB ho
  have hf7:=HF6.out.keep hb7
  have hsz:w.heap.size<=w6.heap.size:=by have:=HF6.out.p.s;omega
  clear hb7 HF6 x0 xl pl k0 y0 z1 z5 zl
  have mm1:MT 0 [61] w7 (w7.setCell ⟨w.heap.size,1,none⟩ (.string ⟨x7.name.toArray⟩)):=MT.setCell (MT.refl w7) hf7.p.q (by simp) (Fz) _
  have hh1:CF w (w7.setCell ⟨w.heap.size,1,none⟩ (.string ⟨x7.name.toArray⟩)) #[_,.string ⟨x7.name.toArray⟩,.slice none 0 0,.string ⟨#[]⟩,.slice none 0 0,.slice none 0 0,.slice none 0 0,.string ⟨#[]⟩,.int .i64 0,.int .i64 0,.slice none 0 0] w1.heap.size w2.heap.size r c vt tkk vk vn tp xb vb:=hf7.store 1 (.string ⟨x7.name.toArray⟩)
  have mm2:MT 0 [61] w7 ((w7.setCell ⟨w.heap.size,1,none⟩ (.string ⟨x7.name.toArray⟩)).setCell ⟨w.heap.size,2,none⟩ (.slice ad x7.cols.length cap)):=MT.setCell (mm1) hh1.p.q (by simp) (Fz) _
  have hh2:CF w ((w7.setCell ⟨w.heap.size,1,none⟩ (.string ⟨x7.name.toArray⟩)).setCell ⟨w.heap.size,2,none⟩ (.slice ad x7.cols.length cap)) #[_,.string ⟨x7.name.toArray⟩,.slice ad x7.cols.length cap,.string ⟨#[]⟩,.slice none 0 0,.slice none 0 0,.slice none 0 0,.string ⟨#[]⟩,.int .i64 0,.int .i64 0,.slice none 0 0] w1.heap.size w2.heap.size r c vt tkk vk vn tp xb vb:=hh1.store 2 (.slice ad x7.cols.length cap)
  have HMS:=Fx (And.intro mm2 (And.intro ho hsz))
  have HF9:=Fx hh2
  have x0:=af.cell hf7.i 0
  have xl:=af.lt hf7.i
  have pl:=hf7.p.q.lt
  have k0:=hf7.p.q.cell 0
  have y0:=hf7.p.q.frozen 0
  have k1:=hf7.p.q.cell 1
  have y1:=hf7.p.q.frozen 1
  have k2:=hf7.p.q.cell 2
  have y2:=hf7.p.q.frozen 2
  have k3:=hf7.p.q.cell 3
  have y3:=hf7.p.q.frozen 3
  have k4:=hf7.p.q.cell 4
  have y4:=hf7.p.q.frozen 4
  have k5:=hf7.p.q.cell 5
  have y5:=hf7.p.q.frozen 5
  have k6:=hf7.p.q.cell 6
  have y6:=hf7.p.q.frozen 6
  have k7:=hf7.p.q.cell 7
  have y7:=hf7.p.q.frozen 7
  have k8:=hf7.p.q.cell 8
  have y8:=hf7.p.q.frozen 8
  have k9:=hf7.p.q.cell 9
  have y9:=hf7.p.q.frozen 9
  have k10:=hf7.p.q.cell 10
  have y10:=hf7.p.q.frozen 10
  have ka:=hf7.p.a.cell 0
  have yka:=hf7.p.a.frozen 0
  have lka:=hf7.p.a.lt
  have ke:=hf7.p.e.cell 0
  have yke:=hf7.p.e.frozen 0
  have lke:=hf7.p.e.lt
  simp only[FF] at x0 k0 k1 k2 k3 k4 k5 k6 k7 k8 k9 k10 ka ke
  clear hf7 ho hsz mm1 hh1 mm2 hh2
  go_wp2_with fail
  rw[HF9.out.p.self]
  exact mM HF9.out.p rfl rfl rfl ⟨_,rfl,⟨_,_,_,_,_,rfl,(HMS.out.1.ownsRow (World.ownsRow.low HMS.out.2.1 HMS.out.2.2) (by decide)),World.ownsRow_nil _ _ _ _,lH _ _,mN _ _,World.ownsRow_nil _ _ _ _⟩,HF9.out.p.b⟩
 ·have hin:=Af s fr _ pQ0 hfs hss plQ (fun W hW=>ppQ W (HF6.out.p.b.trans (hW.mono (by have:=HF6.out.p.s;omega))))
  rw[hfr] at hin
  have HIN:=Fx hin
  have HFR:=Fx hfr
  have hre0:=HRES.out
  simp only[reduceIte,Int.reduceEq] at hre0
  have HRE:=Fx hre0
  clear hin plS ppS plQ ppQ plB ppB hfs hss hfr hre0 HRES
  go_wp2_with fail
  refine HIN.out.mono ?_
  rintro e w7 hin
  rw[<-HFR.out] at hin
  rcases lw hin _ with ⟨a,e0,rfl,hre,hb7⟩ | ⟨v,x7,rfl,hR,hre,hb7⟩
  ·have hr2:=HRE.out.symm.trans hre
   subst hr2
   have HPX:=Fx (HF6.out.p.keep hb7)
   clear HRE hre hin HIN hb7
   go_wp2_with fail
   exact nr HPX.out rfl rfl rfl
  have hr2:=HRE.out.symm.trans hre
  subst hr2
  clear HRE hre hin HIN
  obtain⟨hv,av,rfl,ho,ho2⟩:=hR
  obtain⟨ad,cap,rfl⟩:=aB ho
  obtain⟨ad2,cap2,rfl⟩:=ky ho2
  have hf7:=HF6.out.keep hb7
  have hsz:w.heap.size<=w6.heap.size:=by have:=HF6.out.p.s;omega
  clear hb7 HF6 x0 xl pl k0 y0 z1 z5 zl
  have mm3:MT 0 [61] w7 (w7.setCell ⟨w.heap.size,3,none⟩ (.string ⟨x7.name.toArray⟩)):=MT.setCell (MT.refl w7) hf7.p.q (by simp) (Fz) _
  have hh3:CF w (w7.setCell ⟨w.heap.size,3,none⟩ (.string ⟨x7.name.toArray⟩)) #[_,.string ⟨#[]⟩,.slice none 0 0,.string ⟨x7.name.toArray⟩,.slice none 0 0,.slice none 0 0,.slice none 0 0,.string ⟨#[]⟩,.int .i64 0,.int .i64 0,.slice none 0 0] w1.heap.size w2.heap.size r c vt tkk vk vn tp xb vb:=hf7.store 3 (.string ⟨x7.name.toArray⟩)
  have mm4:MT 0 [61] w7 ((w7.setCell ⟨w.heap.size,3,none⟩ (.string ⟨x7.name.toArray⟩)).setCell ⟨w.heap.size,4,none⟩ (.slice ad x7.head.length cap)):=MT.setCell (mm3) hh3.p.q (by simp) (Fz) _
  have hh4:CF w ((w7.setCell ⟨w.heap.size,3,none⟩ (.string ⟨x7.name.toArray⟩)).setCell ⟨w.heap.size,4,none⟩ (.slice ad x7.head.length cap)) #[_,.string ⟨#[]⟩,.slice none 0 0,.string ⟨x7.name.toArray⟩,.slice ad x7.head.length cap,.slice none 0 0,.slice none 0 0,.string ⟨#[]⟩,.int .i64 0,.int .i64 0,.slice none 0 0] w1.heap.size w2.heap.size r c vt tkk vk vn tp xb vb:=hh3.store 4 (.slice ad x7.head.length cap)
  have mm5:MT 0 [61] w7 (((w7.setCell ⟨w.heap.size,3,none⟩ (.string ⟨x7.name.toArray⟩)).setCell ⟨w.heap.size,4,none⟩ (.slice ad x7.head.length cap)).setCell ⟨w.heap.size,5,none⟩ (.slice ad2 x7.atoms.length cap2)):=MT.setCell (mm4) hh4.p.q (by simp) (Fz) _
  have hh5:CF w (((w7.setCell ⟨w.heap.size,3,none⟩ (.string ⟨x7.name.toArray⟩)).setCell ⟨w.heap.size,4,none⟩ (.slice ad x7.head.length cap)).setCell ⟨w.heap.size,5,none⟩ (.slice ad2 x7.atoms.length cap2)) #[_,.string ⟨#[]⟩,.slice none 0 0,.string ⟨x7.name.toArray⟩,.slice ad x7.head.length cap,.slice ad2 x7.atoms.length cap2,.slice none 0 0,.string ⟨#[]⟩,.int .i64 0,.int .i64 0,.slice none 0 0] w1.heap.size w2.heap.size r c vt tkk vk vn tp xb vb:=hh4.store 5 (.slice ad2 x7.atoms.length cap2)
  have HMS:=Fx (And.intro mm5 (And.intro ho (And.intro hsz ho2)))
  have HF9:=Fx hh5
  have x0:=af.cell hf7.i 0
  have xl:=af.lt hf7.i
  have pl:=hf7.p.q.lt
  have k0:=hf7.p.q.cell 0
  have y0:=hf7.p.q.frozen 0
  have k1:=hf7.p.q.cell 1
  have y1:=hf7.p.q.frozen 1
  have k2:=hf7.p.q.cell 2
  have y2:=hf7.p.q.frozen 2
  have k3:=hf7.p.q.cell 3
  have y3:=hf7.p.q.frozen 3
  have k4:=hf7.p.q.cell 4
  have y4:=hf7.p.q.frozen 4
  have k5:=hf7.p.q.cell 5
  have y5:=hf7.p.q.frozen 5
  have k6:=hf7.p.q.cell 6
  have y6:=hf7.p.q.frozen 6
  have k7:=hf7.p.q.cell 7
  have y7:=hf7.p.q.frozen 7
  have k8:=hf7.p.q.cell 8
  have y8:=hf7.p.q.frozen 8
  have k9:=hf7.p.q.cell 9
  have y9:=hf7.p.q.frozen 9
  have k10:=hf7.p.q.cell 10
  have y10:=hf7.p.q.frozen 10
  have ka:=hf7.p.a.cell 0
  have yka:=hf7.p.a.frozen 0
  have lka:=hf7.p.a.lt
  have ke:=hf7.p.e.cell 0
  have yke:=hf7.p.e.frozen 0
  have lke:=hf7.p.e.lt
  simp only[FF] at x0 k0 k1 k2 k3 k4 k5 k6 k7 k8 k9 k10 ka ke
  clear hf7 ho hsz ho2 mm3 hh3 mm4 hh4 mm5 hh5
  go_wp2_with fail
  rw[HF9.out.p.self]
  exact mM HF9.out.p rfl rfl rfl ⟨_,rfl,⟨_,_,_,_,_,rfl,World.ownsRow_nil _ _ _ _,(HMS.out.1.ownsRow (World.ownsRow.low HMS.out.2.1 HMS.out.2.2.1) (by decide)),((HMS.out.2.2.2.low HMS.out.2.2.1).mt HMS.out.1 (by decide) (by decide)),mN _ _,World.ownsRow_nil _ _ _ _⟩,HF9.out.p.b⟩
 ·have hin:=Az s fr _ pB0 hfs hss plB (fun W hW=>ppB W (HF6.out.p.b.trans (hW.mono (by have:=HF6.out.p.s;omega))))
  rw[hfr] at hin
  have HIN:=Fx hin
  have HFR:=Fx hfr
  have hre0:=HRES.out
  simp only[reduceIte,Int.reduceEq] at hre0
  have HRE:=Fx hre0
  clear hin plS ppS plQ ppQ plB ppB hfs hss hfr hre0 HRES
  go_wp2_with fail
  refine HIN.out.mono ?_
  rintro e w7 hin
  rw[<-HFR.out] at hin
  rcases lw hin _ with ⟨a,e0,rfl,hre,hb7⟩ | ⟨v,x7,rfl,hR,hre,hb7⟩
  ·have hr2:=HRE.out.symm.trans hre
   subst hr2
   have HPX:=Fx (HF6.out.p.keep hb7)
   clear HRE hre hin HIN hb7
   go_wp2_with fail
   exact nr HPX.out rfl rfl rfl
  have hr2:=HRE.out.symm.trans hre
  subst hr2
  clear HRE hre hin HIN
  have ho:=hR
  obtain⟨_,hsl,_⟩:=hR
  obtain⟨ad,cap,rfl⟩:=aB hsl
  clear hsl
  have hf7:=HF6.out.keep hb7
  have hsz:w.heap.size<=w6.heap.size:=by have:=HF6.out.p.s;omega
  clear hb7 HF6 x0 xl pl k0 y0 z1 z5 zl
  have mm6:MT 0 [61] w7 (w7.setCell ⟨w.heap.size,6,none⟩ (.slice ad x7.length cap)):=MT.setCell (MT.refl w7) hf7.p.q (by simp) (Fz) _
  have hh6:CF w (w7.setCell ⟨w.heap.size,6,none⟩ (.slice ad x7.length cap)) #[_,.string ⟨#[]⟩,.slice none 0 0,.string ⟨#[]⟩,.slice none 0 0,.slice none 0 0,.slice ad x7.length cap,.string ⟨#[]⟩,.int .i64 0,.int .i64 0,.slice none 0 0] w1.heap.size w2.heap.size r c vt tkk vk vn tp xb vb:=hf7.store 6 (.slice ad x7.length cap)
  have HMS:=Fx (And.intro mm6 (And.intro ho hsz))
  have HF9:=Fx hh6
  have x0:=af.cell hf7.i 0
  have xl:=af.lt hf7.i
  have pl:=hf7.p.q.lt
  have k0:=hf7.p.q.cell 0
  have y0:=hf7.p.q.frozen 0
  have k1:=hf7.p.q.cell 1
  have y1:=hf7.p.q.frozen 1
  have k2:=hf7.p.q.cell 2
  have y2:=hf7.p.q.frozen 2
  have k3:=hf7.p.q.cell 3
  have y3:=hf7.p.q.frozen 3
  have k4:=hf7.p.q.cell 4
  have y4:=hf7.p.q.frozen 4
  have k5:=hf7.p.q.cell 5
  have y5:=hf7.p.q.frozen 5
  have k6:=hf7.p.q.cell 6
  have y6:=hf7.p.q.frozen 6
  have k7:=hf7.p.q.cell 7
  have y7:=hf7.p.q.frozen 7
  have k8:=hf7.p.q.cell 8
  have y8:=hf7.p.q.frozen 8
  have k9:=hf7.p.q.cell 9
  have y9:=hf7.p.q.frozen 9
  have k10:=hf7.p.q.cell 10
  have y10:=hf7.p.q.frozen 10
  have ka:=hf7.p.a.cell 0
  have yka:=hf7.p.a.frozen 0
  have lka:=hf7.p.a.lt
  have ke:=hf7.p.e.cell 0
  have yke:=hf7.p.e.frozen 0
  have lke:=hf7.p.e.lt
  simp only[FF] at x0 k0 k1 k2 k3 k4 k5 k6 k7 k8 k9 k10 ka ke
  clear hf7 ho hsz mm6 hh6
  go_wp2_with fail
  rw[HF9.out.p.self]
  exact mM HF9.out.p rfl rfl rfl ⟨_,rfl,⟨_,_,_,_,_,rfl,World.ownsRow_nil _ _ _ _,World.ownsRow_nil _ _ _ _,lH _ _,((HMS.out.2.1.low HMS.out.2.2).mt HMS.out.1 (by decide) (by decide)),World.ownsRow_nil _ _ _ _⟩,HF9.out.p.b⟩
def qq (K:Int) (t:ak) (l:List UInt8):PR mf:=if K=1 then di ((t.p.toNat+t.x.length:Nat):Int) ⟨[],[]⟩ (pS (l.drop (t.p.toNat+t.x.length))) fun x => { eD with kind:=1,rel:=x }
 else if K=2 then di ((t.p.toNat+t.x.length:Nat):Int) ⟨[],[],[]⟩ (pQ (l.drop (t.p.toNat+t.x.length))) fun x => { eD with kind:=2,q:=x }
 else di ((t.p.toNat+t.x.length:Nat):Int) [] (gK (l.drop (t.p.toNat+t.x.length))) fun x => { eD with kind:=4,b:=x }
theorem qX {K:Int} {t:ak} {c:List ak} (s:ByteArray) (w:World) (hs:s.size<=281474976710656) (hg:d8 w) (he:(aN s.data.toList).e=0) (hts:(aN s.data.toList).ts=t::c) (hK:gq t=K) (K14:K=1∨K=2∨K=4) :
 Calls prog 22 #[.string s] w (qo w (qq K t s.data.toList)):=by
 have hsl:s.data.toList.length=s.size:=rfl
 have hgw:∀ W,Below w.heap.size w W->dW W:=fun W hW=>hg.v.below hW
 have hop:=fun W (hW:Below w.heap.size w W)=>iM s W hs (hg.g.below hW) he
 rw[hts] at hop
 have hk1:=pX (t:=t) (by omega)
 obtain⟨b1,b2,b3⟩:=xA he hts (by rw[hk1];decide)
 have hxs:(⟨t.x.toArray⟩:ByteArray).size=t.x.length:=by simp [ByteArray.size]
 have h1p:t.p+(⟨t.x.toArray⟩:ByteArray).size<=281474976710656:=by rw[hxs];omega
 obtain⟨fr,hfr⟩:∃ fr,fr=t.p.toNat+t.x.length:=⟨_,rfl⟩
 have hfr1:(fr:Int)=t.p+(⟨t.x.toArray⟩:ByteArray).size:=by rw[hxs];omega
 have hfs:fr<=s.size:=by omega
 obtain⟨x1,x2⟩:=rK s fr hfs
 have plS:eN (pS (s.data.toList.drop fr)):=fun a e q=>by
  have:=CN (s.data.toList.drop fr)
  rw[q] at this
  simp only[List.length_drop] at this
  exact⟨this.1,by omega⟩
 have plQ:eN (pQ (s.data.toList.drop fr)):=fun a e q=>by
  have:=CL (s.data.toList.drop fr)
  rw[q] at this
  simp only[List.length_drop] at this
  exact⟨this.1,by omega⟩
 have plB:eN (gK (s.data.toList.drop fr)):=fun a e q=>by
  have:=tY (s.data.toList.drop fr)
  rw[q] at this
  simp only[List.length_drop] at this
  exact⟨this.1,by omega⟩
 have cS:=fun W (hW:Below w.heap.size w W)=>CX (s.extract fr s.size) W (by omega) (hg.g.below hW)
 have cQ:=fun W (hW:Below w.heap.size w W)=>Ec (s.extract fr s.size) W (by omega) (hg.g.below hW)
 have cB:=fun W (hW:Below w.heap.size w W)=>zq (s.extract fr s.size) W (by omega) (hg.g.below hW)
 rw[x1] at cS cQ cB
 unfold qq
 rw[<-hfr]
 exact Dl s w t c hgw hop hK b1 h1p K14 fr hfr1 hfs hs _ plS cS _ plQ cQ _ plB cB
