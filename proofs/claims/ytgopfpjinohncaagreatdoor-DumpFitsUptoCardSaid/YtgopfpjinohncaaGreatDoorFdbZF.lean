/- The lines of a dump are read back as their commands; plainly. -/
import Derived.Test.YtgopfpjinohncaaGreatDoorFd0ZF
import Derived.Test.YtgopfpjinohncaaGreatDoorDwF
import Derived.Test.YtgopfpjinohncaaGreatDoorLawWZF
set_option maxHeartbeats 4000000
set_option maxRecDepth 100000
set_option linter.unusedVariables false
namespace Go.Proofs.YtgopfpjinohncaaGreatDoor
open Go.RowKit
theorem lF {l:List UInt8} {ts:List ak} (h:LZ l 0 ts) (hl:l.length<=16384):aN l=⟨ts,0,0⟩:=by
 rw[cR hl]
 exact h
theorem qp {x y:List UInt8} {ts:List ak} (hx:ai x=true) (h:LZ y (x.length+1) ts):LZ (x++32::y) 0 (kM x 0::ts) :=
 pZ hx (by simp [hU,bt,aR,au]) (nS (by rw[Nat.zero_add];exact h))
theorem Ew {nm:List UInt8} {cs:List bd} (h:cr nm cs=0):pS (32::ct nm cs)=.ok ⟨nm,cs⟩ []:=by
 obtain⟨ts,h1,h2⟩:=pq h 1
 have h3:LZ (32::ct nm cs) 0 ts:=nS h1
 have h4:=lF h3 (by have:=pd h;rw[List.length_cons];omega)
 have h5:=cw (l:=32::ct nm cs) (by rw[h4])
 unfold pS gz
 rw[if_pos (by rw[h4]),qO h5.1,h4]
 exact h2
theorem Ep {q:cf} (h:fQ q=0) (hb:iG q):pQ (32::qT q)=.ok q []:=by
 obtain⟨ts,h1,h2⟩:=th (cD h) hb.rng 1
 have h3:LZ (32::qT q) 0 ts:=nS h1
 have h4:=lF h3 (by have h1:=qJ (cD h) hb.rng;have h2:=bg (cD h).name;unfold qT;simp only[List.length_append,List.length_cons];omega)
 have h5:=cw (l:=32::qT q) (by rw[h4])
 unfold pQ gz
 rw[if_pos (by rw[h4]),qP h5.1,h4]
 exact h2
theorem EF {b:List eP} (hb:∀ c∈b,eu c=true) (hr:qC b) (hl:(Lib.join (b.map cG) [44,32]).length+1<=16384) (hn:b.length<=256):gK (32::Lib.join (b.map cG) [44,32])=.ok b []:=by
 obtain⟨ts,l,c1,u,h1,h2,h3,h4⟩:=lO hb hr 1
 have h5:LZ (32::Lib.join (b.map cG) [44,32]) 0 ts:=nS h1
 have h6:=lF h5 (by rw[List.length_cons];omega)
 unfold gK
 rw[h6]
 simp only
 rw[if_pos trivial,lG h2 h3,si (by rw[<-List.length_map (f:=(·.1)),h4];omega),h4]
structure ER (s:List UInt8) (c:mf) (K:Int) (x:List UInt8) (ts:List ak):Prop where
 lex:aN s=⟨kM x 0::ts,0,0⟩
 kind:gq (kM x 0)=K
 three:K=1∨K=2∨K=4
 one:qq K (kM x 0) s=.ok c []
theorem yX {s:List UInt8} {c:mf} (h:wJ s c):∃ K x ts,ER s c K x ts:=by
 have hl:=h.len
 rcases h.good with ⟨r,rfl,rfl,hk⟩ | ⟨q,rfl,rfl,hk,hb⟩ | ⟨b,rfl,rfl,hn,hs,hf,hrow⟩
 ·obtain⟨ts,h1,_⟩:=pq hk 4
  have e:cE r=[114,101,108]++32::ct r.name r.cols:=iN hk
  rw[e] at hl ⊢
  refine⟨1,_,ts,lF (qp (by decide) h1) hl,by decide,.inl rfl,?_⟩
  unfold qq
  rw[if_pos rfl]
  show di _ _ (pS (32::ct r.name r.cols)) _=_
  rw[Ew hk]
  rfl
 ·obtain⟨ts,h1,_⟩:=th (cD hk) hb.rng 5
  have e:bL q=[118,105,101,119]++32::qT q:=by
   rw[gN hk]
   unfold gv
   rw[if_pos hk]
   rfl
  rw[e] at hl ⊢
  refine⟨2,_,ts,lF (qp (by decide) h1) hl,by decide,.inr (.inl rfl),?_⟩
  unfold qq
  rw[if_neg (by decide),if_pos rfl]
  show di _ _ (pQ (32::qT q)) _=_
  rw[Ep hk hb]
  rfl
 ·have hg:=pj hn fun r hr=>(hrow r hr).1
  have hr:qC b.chgs:=fun c hc=>by
   obtain⟨r,hr,rfl⟩:=List.mem_map.1 hc
   exact (hrow r hr).2
  obtain⟨ts,l,c1,u,h1,_⟩:=lO hg hr 6
  have e:b.line=[98,97,116,99,104]++32::Lib.join (b.chgs.map cG) [44,32]:=rR fun r hr=>(hrow r hr).1
  rw[e] at hl ⊢
  refine⟨4,_,ts,lF (qp (by decide) h1) hl,by decide,.inr (.inr rfl),?_⟩
  unfold qq
  rw[if_neg (by decide),if_neg (by decide)]
  show di _ _ (gK (32::Lib.join (b.chgs.map cG) [44,32])) _=_
  rw[EF hg hr (by simp only[List.length_append,List.length_cons,List.length_nil] at hl;omega) (by unfold jT.chgs;rw[List.length_map];exact hf)]
  rfl
theorem Ev:fX[4]? = some (.string ⟨#[98,97,116,99,104]⟩):=rfl
theorem uq {s1 s3 s7:ByteArray} {i8 i9:Int} {a2 a4 a5 a10:Option Addr} {n2 n4 n5 n10 c2 c4 c5 c10:Nat} (w:World) (bv:Value) (l:List eP) (h:cU w bv l) (hg0:∀ c∈l,eu c=true) (hr:qC l) (h1:1<=(Lib.join (l.map cG) [44,32]).length) (h2:(Lib.join (l.map cG) [44,32]).length<=16384) (hg:d8 w) :
 Calls Tryz.prog 23 #[.agg #[.int .i64 4,.string s1,.slice a2 n2 c2,.string s3,.slice a4 n4 c4,.slice a5 n5 c5,bv,.string s7,.int .i64 i8,.int .i64 i9,.slice a10 n10 c10]] w fun e w'=>e=.returned (.string ⟨([98,97,116,99,104,32]++Lib.join (l.map cG) [44,32]).toArray⟩)/\Below w.heap.size w w':=by
 have hall:l.all eu=true:=List.all_eq_true.2 hg0
 have HR:=Fx (fun W (hW:Below w.heap.size w W)=>rX W bv l (h.keep hW) hr (fun c hc=>by have:=(bg (pH (hg0 c hc)).1).2;omega) (fun _=>by omega) (hg.g.below hW))
 have hqT:gB l=Lib.join (l.map cG) [44,32]:=by unfold gB;rw[if_pos hall]
 rw[hqT] at HR
 obtain⟨o1,l1,rfl,_,_⟩:=h.form
 generalize Lib.join (l.map cG) [44,32]=S at *
 obtain⟨s0,S,rfl⟩:∃ s0 S',S=s0::S':=by
  cases S with
  | nil=>simp at h1
  | cons a l=>exact⟨a,l,rfl⟩
 have hne:((⟨(s0::S).toArray⟩:ByteArray).toList == [])=false:=by rw[ByteArray.toList_eq];simp
 have hne2:((⟨(s0::S).toArray⟩:ByteArray).toList.isEmpty)=false:=by rw[ByteArray.toList_eq];simp
 generalize hS:(⟨(s0::S).toArray⟩:ByteArray)=sb at *
 have hss:sb.size<=16384:=by rw[<-hS];simpa [ByteArray.size] using h2
 have v1:¬ 9223372036854775807<6+sb.size:=by omega
 have v2:¬ 9223372036854775807<5+1+sb.size:=by omega
 have HS:=Fx hS
 generalize l.length=m1 at *
 have hb0:Below w.heap.size w (w.alloc (.cells #[.int .i64 4,.string s1,.slice a2 n2 c2,.string s3,.slice a4 n4 c4,.slice a5 n5 c5,.slice o1 m1 l1,.string s7,.int .i64 i8,.int .i64 i9,.slice a10 n10 c10] 61)):=ae Fy _
 have hbx:=af.new w 61 #[.int .i64 4,.string s1,.slice a2 n2 c2,.string s3,.slice a4 n4 c4,.slice a5 n5 c5,.slice o1 m1 l1,.string s7,.int .i64 i8,.int .i64 i9,.slice a10 n10 c10]
 obtain⟨W0,hW0⟩:∃ W0,w.alloc (.cells #[.int .i64 4,.string s1,.slice a2 n2 c2,.string s3,.slice a4 n4 c4,.slice a5 n5 c5,.slice o1 m1 l1,.string s7,.int .i64 i8,.int .i64 i9,.slice a10 n10 c10] 61)=W0:=⟨_,rfl⟩
 rw[hW0] at hb0 hbx
 have hg0':=hg.below hb0
 have kw:=hg0'.v.cell 4
 rw[Ev] at kw
 have kl:=hg0'.v.lt
 have x0:=hbx.cell 0
 have y6:=hbx.cell 6
 have xl:=hbx.lt
 simp only[FF] at x0 y6
 have HB0:=Fx hb0
 have HW0:=Fx hW0
 clear h hg0 hall hqT hr h1 h2 hS hb0 hbx hg0' hW0 hg
 go_enter Tryz.func23,Tryz.ntmps23
 go_upto_region 1 with fail
 rw[HW0.out]
 go_wp2_with (go_at_call 70;refine (HR.out _ HB0.out).mono ?_;rintro e w' ⟨rfl,hb'⟩)
 go_ret
 refine⟨congrArg (fun x=>Ending.returned (.string x)) (nM ?_),HB0.out.trans (hb'.mono HB0.out.size)⟩
 rw[<-HS.out]
 simp
theorem xo (W:World) (cells:Array Value) (s:List UInt8) (c:mf) (h:lX W cells c) (hl:wJ s c) (hg:d8 W) :
 Calls Tryz.prog 23 #[.agg cells] W fun e w'=>e=.returned (.string ⟨s.toArray⟩)/\Below W.heap.size W w':=by
 obtain⟨cv,hv,av,bv,rv,rfl,a1,a2,a3,a4,a5⟩:=h
 have hlen:=hl.len
 rcases hl.good with ⟨r,rfl,rfl,hk⟩ | ⟨q,rfl,rfl,hk,hb⟩ | ⟨b,rfl,rfl,hn,hs,hf,hrow⟩
 ·obtain⟨o2,l2,rfl,_,_⟩:=a2.form
  obtain⟨o3,l3,rfl,_,_⟩:=a3.form
  obtain⟨o4,l4,rfl,_,_⟩:=a4.form
  obtain⟨o5,l5,rfl,_,_⟩:=a5.form
  exact tU W r cv a1 hk hg
 ·obtain⟨o1,l1,rfl,_,_⟩:=a1.form
  obtain⟨o4,l4,rfl,_,_⟩:=a4.form
  obtain⟨o5,l5,rfl,_,_⟩:=a5.form
  exact pR W q hv av a2 a3 hb hk hg
 ·obtain⟨o1,l1,rfl,_,_⟩:=a1.form
  obtain⟨o2,l2,rfl,_,_⟩:=a2.form
  obtain⟨o3,l3,rfl,_,_⟩:=a3.form
  obtain⟨o5,l5,rfl,_,_⟩:=a5.form
  have e:=rR (b:=b) fun r hr=>(hrow r hr).1
  rw[e] at hlen ⊢
  rw[List.length_append] at hlen
  refine uq W bv b.chgs a4 (pj hn fun r hr=>(hrow r hr).1) (fun c hc=>?_) ?_ (by omega) hg
  ·obtain⟨r,hr,rfl⟩:=List.mem_map.1 hc
   exact (hrow r hr).2
  ·unfold jT.chgs
   cases hc:b.ch with
   | nil=>exact absurd hc hs
   | cons r rs=>rw[List.map_cons,List.map_cons,Lib.join_cons];simp [cG]
