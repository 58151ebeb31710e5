/- A command, plainly: -/
import Derived.Test.YtgopfpjinohncaaGreatDoorBaF
set_option maxHeartbeats 4000000
set_option maxRecDepth 100000
set_option linter.unusedVariables false
namespace Go.Proofs.YtgopfpjinohncaaGreatDoor
open Go.Proofs.Tryz
open Go.RowKit
structure mf where
 kind:Int
 rel:aU
 q:cf
 b:List eP
 nm:List UInt8
 id:Int
 n:Int
 row:List Vl
def eD:mf:=⟨0,⟨[],[]⟩,⟨[],[],[]⟩,[],[],0,0,[]⟩
def fU:List (List UInt8):=[[114,101,108],[118,105,101,119],[100,114,111,112],[98,97,116,99,104],[114,111,119,115],[111,112,101,110],[110,101,120,116],[114,101,115,101,116],[99,108,111,115,101],[99,111,117,110,116],[110,116,104],[114,97,110,107],[116,101,115,116],[99,108,97,115,115],[99,111,114,101],[115,104,111,119],[100,117,109,112],[99,117,114,115,111,114,115]]
def gq (t:ak):Int:=if t.k=1/\t.x∈fU then (fU.idxOf t.x:Int)+1 else 0
def Fq {α β:Type} (p:PR α) (f:α->List ak->PR β):PR β:=match p with
 | .bad a e=>.bad a e
 | .ok x c=>f x c
def di {α:Type} (fr:Int) (z:α) (p:PR α) (f:α->mf):PR mf:=match p with
 | .bad a e=>if e=0 then .ok (f z) [] else .bad (fr+a) e
 | .ok x _=>.ok (f x) []
def sm (c:mf):Option (List UInt8) :=
 if c.kind=1 then (if ct c.rel.name c.rel.cols=[] then none else some (ct c.rel.name c.rel.cols))
 else if c.kind=2∨c.kind=14∨c.kind=15 then (if gv c.q=[] then none else some (gv c.q))
 else if c.kind=4 then (if gB c.b=[]/\c.b≠[] then none else some (gB c.b))
 else if c.kind=3∨c.kind=5∨c.kind=6∨c.kind=10∨c.kind=13 then (if ai c.nm=true then some c.nm else none)
 else if c.kind=8∨c.kind=9 then some (Lib.itoa c.id)
 else if c.kind=7 then some (Lib.itoa c.id++32::Lib.itoa c.n)
 else if c.kind=11 then (if ai c.nm=true then some (c.nm++32::Lib.itoa c.n) else none)
 else if c.kind=12 then (if ai c.nm=true/\dj c.row=true then some (c.nm++cz c.row) else none)
 else some []
def wT (c:mf):List UInt8 :=
 if c.kind<1∨18<c.kind then [] else match sm c with
 | none=>[]
 | some r=>if r=[] then fU.getD (c.kind - 1).toNat [] else fU.getD (c.kind - 1).toNat []++32::r
def ej:List (List UInt8):=[]::fU
def fX:Array Value:=#[.string ⟨#[]⟩,.string ⟨#[114,101,108]⟩,.string ⟨#[118,105,101,119]⟩,.string ⟨#[100,114,111,112]⟩,.string ⟨#[98,97,116,99,104]⟩,.string ⟨#[114,111,119,115]⟩,.string ⟨#[111,112,101,110]⟩,.string ⟨#[110,101,120,116]⟩,.string ⟨#[114,101,115,101,116]⟩,.string ⟨#[99,108,111,115,101]⟩,.string ⟨#[99,111,117,110,116]⟩,.string ⟨#[110,116,104]⟩,.string ⟨#[114,97,110,107]⟩,.string ⟨#[116,101,115,116]⟩,.string ⟨#[99,108,97,115,115]⟩,.string ⟨#[99,111,114,101]⟩,.string ⟨#[115,104,111,119]⟩,.string ⟨#[100,117,109,112]⟩,.string ⟨#[99,117,114,115,111,114,115]⟩]
def dW (w:World):Prop:=∃ t f,w.heap[0]? = some (.cells fX t f)
theorem dW.lt {w:World} (h:dW w):0<w.heap.size:=by
 obtain⟨t,f,h⟩:=h
 exact (Array.getElem?_eq_some_iff.1 h).1
theorem dW.below {w w':World} (h:dW w) (hb:Below w.heap.size w w'):dW w':=by
 have hl:=h.lt
 obtain⟨t,f,h⟩:=h
 exact⟨t,f,(hb.block _ hl).trans h⟩
theorem dW.cell {w:World} (h:dW w) (i:Nat):w.cell? ⟨0,i,none⟩=fX[i]? := by
 obtain⟨t,f,h⟩:=h
 exact cell_of_row w _ i _ t f h
structure d8 (w:World):Prop where
 g:bY w
 v:dW w
theorem d8.below {w w':World} (h:d8 w) (hb:Below w.heap.size w w'):d8 w':=⟨h.g.below hb,h.v.below hb⟩
theorem yB (k:Nat) (hk:k<19):fX[k]? = some (.string ⟨(ej.getD k []).toArray⟩):=by
 have h:k=0∨k=1∨k=2∨k=3∨k=4∨k=5∨k=6∨k=7∨k=8∨k=9∨k=10∨k=11∨k=12∨k=13∨k=14∨k=15∨k=16∨k=17∨k=18:=by omega
 rcases h with rfl | rfl | rfl | rfl | rfl | rfl | rfl | rfl | rfl | rfl | rfl | rfl | rfl | rfl | rfl | rfl | rfl | rfl | rfl<;>rfl
theorem r6 (w:World) (k:Nat) (hk:k<19):(Instr.index 138 (.agg fX) (.int .i64 (k:Int))).run prog w=.ok (.string ⟨(ej.getD k []).toArray⟩) w:=by
 have h1:=yB k hk
 have h3:=sizeOf9 w
 obtain⟨hs,hv⟩:=Array.getElem?_eq_some_iff.1 h1
 simp [Instr.index,asIntOf,run_underlying underlying138,part,h1,h3]
 intro hh
 omega
theorem zY {t:ak} {k:Nat} (hk:k<19) (h1:t.k=1) (hx:ej.getD k []=t.x):gq t=k:=by
 have h:k=0∨k=1∨k=2∨k=3∨k=4∨k=5∨k=6∨k=7∨k=8∨k=9∨k=10∨k=11∨k=12∨k=13∨k=14∨k=15∨k=16∨k=17∨k=18:=by omega
 unfold gq
 rw[<-hx]
 rcases h with rfl | rfl | rfl | rfl | rfl | rfl | rfl | rfl | rfl | rfl | rfl | rfl | rfl | rfl | rfl | rfl | rfl | rfl | rfl<;>(simp only[h1];decide)
theorem vM {t:ak} (h:∀ k,k<19->ej.getD k []≠t.x):gq t=0:=by
 unfold gq
 rw[if_neg]
 rintro ⟨_,hm⟩
 obtain⟨i,hi⟩:=List.getElem?_of_mem hm
 have hl:fU.length=18:=rfl
 have hil:=(FE hi).1
 refine h (i+1) (by omega) ?_
 unfold ej
 rw[List.getD_cons_succ,List.getD_eq_getElem?_getD,hi]
 rfl
theorem ni {t:ak} (h:t.k≠1):gq t=0:=by
 unfold gq
 rw[if_neg (fun q=>h q.1)]
theorem aS {w:World} {g i:Nat} {t:TypeId} {cs:Array Value} {v:Value} (h:af w g t cs) (hv:cs[i]? = some v):w.setCell ⟨g,i,none⟩ v=w:=by
 have hg:w.heap[g]? = some (.cells cs t (0,0)):=h
 obtain⟨hi,hx⟩:=Array.getElem?_eq_some_iff.1 hv
 have hc:cs.setIfInBounds i v=cs:=by
  rw[<-hx]
  simp [Array.setIfInBounds,hi]
 unfold World.setCell
 have e:(w.heap.modify g fun o=>match o with
  | .cells c e f=>.cells (c.setIfInBounds i v) e f
  | o=>o)=w.heap:=by
  apply Array.ext_getElem?
  intro k
  rw[Array.getElem?_modify]
  by_cases hk:g=k
  ·subst hk
   rw[if_pos rfl,hg]
   simp [hc]
  ·rw[if_neg hk]
 exact congrArg (fun h=>({ w with heap:=h }:World)) e
theorem BN (p q r:Addr) (w:World) :
 CallsD prog 52 #[.pointer (some p),.pointer (some q),.pointer (some r)] .returning w fun e u' w'=>e=.returned (.tuple #[])/\u'=.returning/\w'=w:=by
 have hc:=gD p q w
 refine callsD_of_wpS func52 rfl fun c₀ cs hu=>?_
 apply wpS_seq
 apply wpS_region
 simp [wpOpsS,go_sem,recoverD,hu,ntmps52,Exit.thenS]
 refine hc.mono ?_
 rintro e w1 ⟨rfl,rfl⟩
 refine wpS_cond (t:=false) (by simp [Act.eval,Array.replicate]) ?_
 simp only[Bool.false_eq_true,if_false]
 refine wpS_of_wp (wp_skip ?_)
 cases c₀
 simp_all [bodyPostS,results,results52]
structure nu (w0:World) (n:Nat) (cs:Array Value) (w:World):Prop where
 q:af w n 61 cs
 a:af w (n+1) 3 #[.int .i64 0]
 e:af w (n+1+1) 29 #[.int .i64 0]
 b:Below n w0 w
 s:n+3<=w.heap.size
section
variable {w0 w w' : World} {n : Nat} {cs : Array Value}
theorem nu.below (h:nu w0 n cs w) (hb:Below (n+3) w w'):nu w0 n cs w' :=
 ⟨h.q.below hb (by omega),h.a.below hb (by omega),h.e.below hb (by omega),h.b.trans (hb.mono (by omega)),Nat.le_trans h.s hb.size⟩
theorem nu.mt {Ts:List TypeId} (h:nu w0 n cs w) (hm:MT (n+3) Ts w w'):nu w0 n cs w':=h.below (hm.below h.s)
theorem nu.keep (h:nu w0 n cs w) (hb:Below w.heap.size w w'):nu w0 n cs w':=h.below (hb.mono h.s)
theorem nu.store (h:nu w0 n cs w) (i:Nat) (u:Value):nu w0 n (cs.setIfInBounds i u) (w.setCell ⟨n,i,none⟩ u) :=
 ⟨h.q.set_ i u,h.a.far (by intro q;simp only at q;omega) u,h.e.far (by intro q;simp only at q;omega) u,h.b.setCell FA u,by simpa [World.setCell] using h.s⟩
end
theorem v8 (a e:Int) (pa pe pr:Nat) (x y x0 x1 x2 x3 x4 x5 x6 x7 x8 x9 x10:Value) (older:List PanicEntry) (w:World) (ha:w.cell? ⟨pa,0,none⟩=some x) (he:w.cell? ⟨pe,0,none⟩=some y) (hn:af w pr 61 #[x0,x1,x2,x3,x4,x5,x6,x7,x8,x9,x10])
 (fa:w.frozen? ⟨pa,0,none⟩=false) (fe:w.frozen? ⟨pe,0,none⟩=false) (h1:pa≠pe) (h2:pa≠pr) (h3:pe≠pr) :
 CallsD prog 52 #[.pointer (some ⟨pa,0,none⟩),.pointer (some ⟨pe,0,none⟩),.pointer (some ⟨pr,0,none⟩)] (.panicking ({ v:=aP a e,recovered:=false }::older)) w fun x u' w' =>
  x=.returned (.tuple #[])/\u'=.panicking ({ v:=aP a e,recovered:=true }::older)/\w'=((((((((((((((w.setCell ⟨pa,0,none⟩ (.int .i64 a)).setCell ⟨pe,0,none⟩ (.int .i64 e)).alloc (.cells #[.int .i64 a,.int .i64 e] 126)).drew).setCell ⟨pr,0,none⟩ (.int .i64 0)).setCell ⟨pr,1,none⟩ (.string ⟨#[]⟩)).setCell ⟨pr,2,none⟩ (.slice none 0 0)).setCell ⟨pr,3,none⟩ (.string ⟨#[]⟩)).setCell ⟨pr,4,none⟩ (.slice none 0 0)).setCell ⟨pr,5,none⟩ (.slice none 0 0)).setCell ⟨pr,6,none⟩ (.slice none 0 0)).setCell ⟨pr,7,none⟩ (.string ⟨#[]⟩)).setCell ⟨pr,8,none⟩ (.int .i64 0)).setCell ⟨pr,9,none⟩ (.int .i64 0)).setCell ⟨pr,10,none⟩ (.slice none 0 0):=by
 have hcf:=eL a e pa pe x y w ha he fa fe h1
 have HCF:=Fx hcf
 clear hcf
 have h2':pr≠pa:=fun q=>h2 q.symm
 have h3':pr≠pe:=fun q=>h3 q.symm
 have hm:aq (fun k=>k=pa∨k=pe) w (((w.setCell ⟨pa,0,none⟩ (.int .i64 a)).setCell ⟨pe,0,none⟩ (.int .i64 e)).alloc (.cells #[.int .i64 a,.int .i64 e] 126)) :=
  (((aq.refl _ w).setCell (p:=⟨pa,0,none⟩) (fun _=>.inl rfl) _).setCell (p:=⟨pe,0,none⟩) (fun _=>.inr rfl) _).alloc _
 have hno:¬ (pr=pa∨pr=pe):=fun q=>q.elim h2' h3'
 have hk:af (((w.setCell ⟨pa,0,none⟩ (.int .i64 a)).setCell ⟨pe,0,none⟩ (.int .i64 e)).alloc (.cells #[.int .i64 a,.int .i64 e] 126)) pr 61 #[x0,x1,x2,x3,x4,x5,x6,x7,x8,x9,x10]:=(hm.block pr hn.lt hno).trans hn
 have k0:=hk.cell 0
 have y0:=hk.frozen 0
 have k1:=hk.cell 1
 have y1:=hk.frozen 1
 have k2:=hk.cell 2
 have y2:=hk.frozen 2
 have k3:=hk.cell 3
 have y3:=hk.frozen 3
 have k4:=hk.cell 4
 have y4:=hk.frozen 4
 have k5:=hk.cell 5
 have y5:=hk.frozen 5
 have k6:=hk.cell 6
 have y6:=hk.frozen 6
 have k7:=hk.cell 7
 have y7:=hk.frozen 7
 have k8:=hk.cell 8
 have y8:=hk.frozen 8
 have k9:=hk.cell 9
 have y9:=hk.frozen 9
 have k10:=hk.cell 10
 have y10:=hk.frozen 10
 simp only[FF] at k0 k1 k2 k3 k4 k5 k6 k7 k8 k9 k10
 clear hm hno ha he hn fa fe hk
 refine callsD_of_wpS func52 rfl fun c₀ cs hu=>?_
 apply wpS_seq
 apply wpS_region
 simp [wpOpsS,go_sem,recoverD,hu,ntmps52,Exit.thenS]
 refine HCF.out.mono ?_
 rintro e' w1 ⟨rfl,rfl⟩
 refine wpS_cond (t:=true) (by simp [Act.eval,Array.replicate]) ?_
 simp only[if_true]
 apply wpS_region
 simp [wpOpsS,go_sem,k0,y0,k1,y1,k2,y2,k3,y3,k4,y4,k5,y5,k6,y6,k7,y7,k8,y8,k9,y9,k10,y10,bodyPostS,results,results52]
theorem xO (a e:Int) {w0 w:World} {n:Nat} {x0 x1 x2 x3 x4 x5 x6 x7 x8 x9 x10:Value} (h:nu w0 n #[x0,x1,x2,x3,x4,x5,x6,x7,x8,x9,x10] w) :
 CallsD prog 52 #[.pointer (some ⟨n+1,0,none⟩),.pointer (some ⟨n+1+1,0,none⟩),.pointer (some ⟨n,0,none⟩)] (.panicking [{ v:=aP a e,recovered:=false }]) w fun x u' w' =>
  x=.returned (.tuple #[])/\u'=.panicking [{ v:=aP a e,recovered:=true }] /\
  af w' n 61 #[.int .i64 0,.string ⟨#[]⟩,.slice none 0 0,.string ⟨#[]⟩,.slice none 0 0,.slice none 0 0,.slice none 0 0,.string ⟨#[]⟩,.int .i64 0,.int .i64 0,.slice none 0 0]/\w'.cell? ⟨n+1,0,none⟩=some (.int .i64 a)/\w'.cell? ⟨n+1+1,0,none⟩=some (.int .i64 e)/\Below n w0 w':=by
 have hs:=h.s
 refine (v8 a e (n+1) (n+1+1) n _ _ _ _ _ _ _ _ _ _ _ _ _ [] w (h.a.cell 0) (h.e.cell 0) h.q (h.a.frozen 0) (h.e.frozen 0) (by omega) (by omega) (by omega)).mono ?_
 rintro e' u' w' ⟨rfl,rfl,rfl⟩
 have q0:=(((h.q.far (p:=⟨n+1,0,none⟩) (by intro q;simp only at q;omega) (.int .i64 a)).far (p:=⟨n+1+1,0,none⟩) (by intro q;simp only at q;omega) (.int .i64 e)).alloc (.cells #[.int .i64 a,.int .i64 e] 126)).drew
 have a0:=(((h.a.set_ 0 (.int .i64 a)).far (p:=⟨n+1+1,0,none⟩) (by intro q;simp only at q;omega) (.int .i64 e)).alloc (.cells #[.int .i64 a,.int .i64 e] 126)).drew
 have e0:=(((h.e.far (p:=⟨n+1,0,none⟩) (by intro q;simp only at q;omega) (.int .i64 a)).set_ 0 (.int .i64 e)).alloc (.cells #[.int .i64 a,.int .i64 e] 126)).drew
 have b0:=(((h.b.setCell (p:=⟨n+1,0,none⟩) (by simp only;omega) (.int .i64 a)).setCell (p:=⟨n+1+1,0,none⟩) (by simp only;omega) (.int .i64 e)).alloc (by simp [World.setCell];omega) (.cells #[.int .i64 a,.int .i64 e] 126))
 have q1:af _ n 61 #[.int .i64 0,x1,x2,x3,x4,x5,x6,x7,x8,x9,x10]:=q0.set_ 0 (.int .i64 0)
 have a1:=a0.far (p:=⟨n,0,none⟩) (by intro q;simp only at q;omega) (.int .i64 0)
 have e1:=e0.far (p:=⟨n,0,none⟩) (by intro q;simp only at q;omega) (.int .i64 0)
 have q2:af _ n 61 #[.int .i64 0,.string ⟨#[]⟩,x2,x3,x4,x5,x6,x7,x8,x9,x10]:=q1.set_ 1 (.string ⟨#[]⟩)
 have a2:=a1.far (p:=⟨n,1,none⟩) (by intro q;simp only at q;omega) (.string ⟨#[]⟩)
 have e2:=e1.far (p:=⟨n,1,none⟩) (by intro q;simp only at q;omega) (.string ⟨#[]⟩)
 have q3:af _ n 61 #[.int .i64 0,.string ⟨#[]⟩,.slice none 0 0,x3,x4,x5,x6,x7,x8,x9,x10]:=q2.set_ 2 (.slice none 0 0)
 have a3:=a2.far (p:=⟨n,2,none⟩) (by intro q;simp only at q;omega) (.slice none 0 0)
 have e3:=e2.far (p:=⟨n,2,none⟩) (by intro q;simp only at q;omega) (.slice none 0 0)
 have q4:af _ n 61 #[.int .i64 0,.string ⟨#[]⟩,.slice none 0 0,.string ⟨#[]⟩,x4,x5,x6,x7,x8,x9,x10]:=q3.set_ 3 (.string ⟨#[]⟩)
 have a4:=a3.far (p:=⟨n,3,none⟩) (by intro q;simp only at q;omega) (.string ⟨#[]⟩)
 have e4:=e3.far (p:=⟨n,3,none⟩) (by intro q;simp only at q;omega) (.string ⟨#[]⟩)
 have q5:af _ n 61 #[.int .i64 0,.string ⟨#[]⟩,.slice none 0 0,.string ⟨#[]⟩,.slice none 0 0,x5,x6,x7,x8,x9,x10]:=q4.set_ 4 (.slice none 0 0)
 have a5:=a4.far (p:=⟨n,4,none⟩) (by intro q;simp only at q;omega) (.slice none 0 0)
 have e5:=e4.far (p:=⟨n,4,none⟩) (by intro q;simp only at q;omega) (.slice none 0 0)
 have q6:af _ n 61 #[.int .i64 0,.string ⟨#[]⟩,.slice none 0 0,.string ⟨#[]⟩,.slice none 0 0,.slice none 0 0,x6,x7,x8,x9,x10]:=q5.set_ 5 (.slice none 0 0)
 have a6:=a5.far (p:=⟨n,5,none⟩) (by intro q;simp only at q;omega) (.slice none 0 0)
 have e6:=e5.far (p:=⟨n,5,none⟩) (by intro q;simp only at q;omega) (.slice none 0 0)
 have q7:af _ n 61 #[.int .i64 0,.string ⟨#[]⟩,.slice none 0 0,.string ⟨#[]⟩,.slice none 0 0,.slice none 0 0,.slice none 0 0,x7,x8,x9,x10]:=q6.set_ 6 (.slice none 0 0)
 have a7:=a6.far (p:=⟨n,6,none⟩) (by intro q;simp only at q;omega) (.slice none 0 0)
 have e7:=e6.far (p:=⟨n,6,none⟩) (by intro q;simp only at q;omega) (.slice none 0 0)
 have q8:af _ n 61 #[.int .i64 0,.string ⟨#[]⟩,.slice none 0 0,.string ⟨#[]⟩,.slice none 0 0,.slice none 0 0,.slice none 0 0,.string ⟨#[]⟩,x8,x9,x10]:=q7.set_ 7 (.string ⟨#[]⟩)
 have a8:=a7.far (p:=⟨n,7,none⟩) (by intro q;simp only at q;omega) (.string ⟨#[]⟩)
 have e8:=e7.far (p:=⟨n,7,none⟩) (by intro q;simp only at q;omega) (.string ⟨#[]⟩)
 have q9:af _ n 61 #[.int .i64 0,.string ⟨#[]⟩,.slice none 0 0,.string ⟨#[]⟩,.slice none 0 0,.slice none 0 0,.slice none 0 0,.string ⟨#[]⟩,.int .i64 0,x9,x10]:=q8.set_ 8 (.int .i64 0)
 have a9:=a8.far (p:=⟨n,8,none⟩) (by intro q;simp only at q;omega) (.int .i64 0)
 have e9:=e8.far (p:=⟨n,8,none⟩) (by intro q;simp only at q;omega) (.int .i64 0)
 have q10:af _ n 61 #[.int .i64 0,.string ⟨#[]⟩,.slice none 0 0,.string ⟨#[]⟩,.slice none 0 0,.slice none 0 0,.slice none 0 0,.string ⟨#[]⟩,.int .i64 0,.int .i64 0,x10]:=q9.set_ 9 (.int .i64 0)
 have a10:=a9.far (p:=⟨n,9,none⟩) (by intro q;simp only at q;omega) (.int .i64 0)
 have e10:=e9.far (p:=⟨n,9,none⟩) (by intro q;simp only at q;omega) (.int .i64 0)
 have q11:af _ n 61 #[.int .i64 0,.string ⟨#[]⟩,.slice none 0 0,.string ⟨#[]⟩,.slice none 0 0,.slice none 0 0,.slice none 0 0,.string ⟨#[]⟩,.int .i64 0,.int .i64 0,.slice none 0 0]:=q10.set_ 10 (.slice none 0 0)
 have a11:=a10.far (p:=⟨n,10,none⟩) (by intro q;simp only at q;omega) (.slice none 0 0)
 have e11:=e10.far (p:=⟨n,10,none⟩) (by intro q;simp only at q;omega) (.slice none 0 0)
 refine⟨rfl,rfl,q11,a11.cell 0,e11.cell 0,?_⟩
 exact ((((((((((((ay b0).setCell FA _).setCell FA _).setCell FA _).setCell FA _).setCell FA _).setCell FA _).setCell FA _).setCell FA _).setCell FA _).setCell FA _).setCell FA _)
def vz (B:Nat) (w:World) (cells:Array Value) (c:mf):Prop :=
 ∃ cv hv av bv rv,cells=#[.int .i64 c.kind,.string ⟨c.rel.name.toArray⟩,cv,.string ⟨c.q.name.toArray⟩,hv,av,bv,.string ⟨c.nm.toArray⟩,.int .i64 c.id,.int .i64 c.n,rv] /\
  bV B w cv c.rel.cols/\aV B w hv c.q.head/\cm B w av c.q.atoms/\cK B w bv c.b/\w.ownsRow B 111 3 rv c.row.length (c.row.map Vl.cells).flatten
def qo (w:World):PR mf->Ending->World->Prop
 | .bad a f,e,w'=>e=.returned (.tuple #[.agg #[.int .i64 0,.string ⟨#[]⟩,.slice none 0 0,.string ⟨#[]⟩,.slice none 0 0,.slice none 0 0,.slice none 0 0,.string ⟨#[]⟩,.int .i64 0,.int .i64 0,.slice none 0 0],.int .i64 a,.int .i64 f])/\Below w.heap.size w w'
 | .ok c _,e,w'=>∃ cells,e=.returned (.tuple #[.agg cells,.int .i64 0,.int .i64 0])/\vz w.heap.size w' cells c/\Below w.heap.size w w'
theorem nu.start (w:World):nu w w.heap.size #[.int .i64 0,.string ⟨#[]⟩,.slice none 0 0,.string ⟨#[]⟩,.slice none 0 0,.slice none 0 0,.slice none 0 0,.string ⟨#[]⟩,.int .i64 0,.int .i64 0,.slice none 0 0] (((w.alloc (.cells #[.int .i64 0,.string ⟨#[]⟩,.slice none 0 0,.string ⟨#[]⟩,.slice none 0 0,.slice none 0 0,.slice none 0 0,.string ⟨#[]⟩,.int .i64 0,.int .i64 0,.slice none 0 0] 61)).alloc (.cells #[.int .i64 0] 3)).alloc (.cells #[.int .i64 0] 29)):=by
 refine⟨((af.new w _ _).alloc _).alloc _,?_,?_,ae (ae (ae Fy _) _) _,by simp⟩
 ·have:=(af.new (w.alloc (.cells #[.int .i64 0,.string ⟨#[]⟩,.slice none 0 0,.string ⟨#[]⟩,.slice none 0 0,.slice none 0 0,.slice none 0 0,.string ⟨#[]⟩,.int .i64 0,.int .i64 0,.slice none 0 0] 61)) 3 #[.int .i64 0]).alloc (.cells #[.int .i64 0] 29)
  simpa using this
 ·have:=af.new ((w.alloc (.cells #[.int .i64 0,.string ⟨#[]⟩,.slice none 0 0,.string ⟨#[]⟩,.slice none 0 0,.slice none 0 0,.slice none 0 0,.string ⟨#[]⟩,.int .i64 0,.int .i64 0,.slice none 0 0] 61)).alloc (.cells #[.int .i64 0] 3)) 29 #[.int .i64 0]
  simpa using this
theorem nr {w0 w1:World} {a f:Int} {x0 x1 x2 x3 x4 x5 x6 x7 x8 x9 x10:Value} {T:Array Value} (h:nu w0 w0.heap.size #[x0,x1,x2,x3,x4,x5,x6,x7,x8,x9,x10] w1) (h2:T[2]?.getD undef=.pointer (some ⟨w0.heap.size,0,none⟩)) (h3:T[3]?.getD undef=.pointer (some ⟨w0.heap.size+1,0,none⟩)) (h4:T[4]?.getD undef=.pointer (some ⟨w0.heap.size+1+1,0,none⟩)) :
 bodyPostD prog Tryz.f22 (qo w0 (.bad a f)) (Exit.panic [{ v:=aP a f,recovered:=false }])
  { tmps:=T,defers:=[{ target:=Target.fn (Fn.func 52) #[.pointer (some ⟨w0.heap.size+1,0,none⟩),.pointer (some ⟨w0.heap.size+1+1,0,none⟩),.pointer (some ⟨w0.heap.size,0,none⟩)],args:=#[] }] } w1:=by
 refine leaves_cons (f:=52) (args:=#[.pointer (some ⟨w0.heap.size+1,0,none⟩),.pointer (some ⟨w0.heap.size+1+1,0,none⟩),.pointer (some ⟨w0.heap.size,0,none⟩)]) (by simp) (by simp [go_sem]) ?_
 refine (xO a f h).mono ?_
 rintro e u' w2 ⟨rfl,rfl,HQ,d3,d4,hb⟩
 have HB:=Fx hb
 have c0:=HQ.cell 0
 have c1:=HQ.cell 1
 have c2:=HQ.cell 2
 have c3:=HQ.cell 3
 have c4:=HQ.cell 4
 have c5:=HQ.cell 5
 have c6:=HQ.cell 6
 have c7:=HQ.cell 7
 have c8:=HQ.cell 8
 have c9:=HQ.cell 9
 have c10:=HQ.cell 10
 simp only[FF] at c0 c1 c2 c3 c4 c5 c6 c7 c8 c9 c10
 clear hb h HQ
 simp [Leaves,settle,results,results22,go_sem,h2,h3,h4,c0,c1,c2,c3,c4,c5,c6,c7,c8,c9,c10,d3,d4]
 exact⟨rfl,HB.out⟩
theorem nu.fin {w0 w1:World} {x0 x1 x2 x3 x4 x5 x6 x7 x8 x9 x10:Value} (h:nu w0 w0.heap.size #[x0,x1,x2,x3,x4,x5,x6,x7,x8,x9,x10] w1):(w1.setCell ⟨w0.heap.size+1,0,none⟩ (.int .i64 0)).setCell ⟨w0.heap.size+1+1,0,none⟩ (.int .i64 0)=w1:=by
 rw[aS (i:=0) h.a (by rfl),aS (i:=0) h.e (by rfl)]
theorem mM {w0 w1:World} {x0 x1 x2 x3 x4 x5 x6 x7 x8 x9 x10:Value} {T:Array Value} {Post:Ending->World->Prop} (h:nu w0 w0.heap.size #[x0,x1,x2,x3,x4,x5,x6,x7,x8,x9,x10] w1) (h2:T[2]?.getD undef=.pointer (some ⟨w0.heap.size,0,none⟩)) (h3:T[3]?.getD undef=.pointer (some ⟨w0.heap.size+1,0,none⟩)) (h4:T[4]?.getD undef=.pointer (some ⟨w0.heap.size+1+1,0,none⟩))
 (hp:Post (.returned (.tuple #[.agg #[x0,x1,x2,x3,x4,x5,x6,x7,x8,x9,x10],.int .i64 0,.int .i64 0])) w1) :
 bodyPostD prog Tryz.f22 Post Exit.ret { tmps:=T,defers:=[{ target:=Target.fn (Fn.func 52) #[.pointer (some ⟨w0.heap.size+1,0,none⟩),.pointer (some ⟨w0.heap.size+1+1,0,none⟩),.pointer (some ⟨w0.heap.size,0,none⟩)],args:=#[] }] } ((w1.setCell ⟨w0.heap.size+1,0,none⟩ (.int .i64 0)).setCell ⟨w0.heap.size+1+1,0,none⟩ (.int .i64 0)):=by
 rw[h.fin]
 have c0:=h.q.cell 0
 have c1:=h.q.cell 1
 have c2:=h.q.cell 2
 have c3:=h.q.cell 3
 have c4:=h.q.cell 4
 have c5:=h.q.cell 5
 have c6:=h.q.cell 6
 have c7:=h.q.cell 7
 have c8:=h.q.cell 8
 have c9:=h.q.cell 9
 have c10:=h.q.cell 10
 have c11:=h.a.cell 0
 have c12:=h.e.cell 0
 simp only[FF] at c0 c1 c2 c3 c4 c5 c6 c7 c8 c9 c10 c11 c12
 have HP:=Fx hp
 clear hp h
 refine leaves_cons (f:=52) (args:=#[.pointer (some ⟨w0.heap.size+1,0,none⟩),.pointer (some ⟨w0.heap.size+1+1,0,none⟩),.pointer (some ⟨w0.heap.size,0,none⟩)]) (by simp) (by simp [go_sem]) ?_
 refine (BN _ _ _ _).mono ?_
 rintro e u' w2 ⟨rfl,rfl,rfl⟩
 simp [Leaves,settle,results,results22,go_sem,h2,h3,h4,c0,c1,c2,c3,c4,c5,c6,c7,c8,c9,c10,c11,c12]
 exact HP.out
