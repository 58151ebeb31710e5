/- schema.Parse's deferred closure, walked; its named results; its doors. -/
import Derived.Test.YtgopfpjinohncaaGreatDoorLxF
import Derived.Test.YtgopfpjinohncaaGreatDoorGcF
set_option maxHeartbeats 16000000
set_option maxRecDepth 100000
set_option linter.unusedVariables false
namespace Go.Proofs.YtgopfpjinohncaaGreatDoor
open Go.Proofs.Tryz
open Go.RowKit
theorem uh (p q r:Addr) (w:World) :
 CallsD prog 125 #[.pointer (some p),.pointer (some q),.pointer (some r)] .returning w fun e u' w'=>e=.returned (.tuple #[])/\u'=.returning/\w'=w:=by
 have hc:=gD p q w
 refine callsD_of_wpS func125 rfl fun c₀ cs hu=>?_
 apply wpS_seq
 apply wpS_region
 simp [wpOpsS,go_sem,recoverD,hu,ntmps125,Exit.thenS]
 refine hc.mono ?_
 rintro e w1 ⟨rfl,rfl⟩
 refine wpS_cond (t:=false) (by simp [Act.eval,Array.replicate]) ?_
 simp only[Bool.false_eq_true,if_false]
 refine wpS_of_wp (wp_skip ?_)
 cases c₀
 simp_all [bodyPostS,results,results125]
theorem oV (a e:Int) (pa pe pr:Nat) (x y n c:Value) (older:List PanicEntry) (w:World) (ha:w.cell? ⟨pa,0,none⟩=some x) (he:w.cell? ⟨pe,0,none⟩=some y) (hn:w.cell? ⟨pr,0,none⟩=some n) (hc:w.cell? ⟨pr,1,none⟩=some c)
 (fa:w.frozen? ⟨pa,0,none⟩=false) (fe:w.frozen? ⟨pe,0,none⟩=false) (fn:w.frozen? ⟨pr,0,none⟩=false) (fc:w.frozen? ⟨pr,1,none⟩=false) (h1:pa≠pe) (h2:pa≠pr) (h3:pe≠pr) :
 CallsD prog 125 #[.pointer (some ⟨pa,0,none⟩),.pointer (some ⟨pe,0,none⟩),.pointer (some ⟨pr,0,none⟩)] (.panicking ({ v:=aP a e,recovered:=false }::older)) w fun x u' w' =>
  x=.returned (.tuple #[])/\u'=.panicking ({ v:=aP a e,recovered:=true }::older) /\
  w'=(((((w.setCell ⟨pa,0,none⟩ (.int .i64 a)).setCell ⟨pe,0,none⟩ (.int .i64 e)).alloc (.cells #[.int .i64 a,.int .i64 e] 126)).drew).setCell ⟨pr,0,none⟩ (.string ⟨#[]⟩)).setCell ⟨pr,1,none⟩ (.slice none 0 0):=by
 have hcf:=eL a e pa pe x y w ha he fa fe h1
 have HCF:=Fx hcf
 clear hcf
 have hrl:=World.block_lt_of_cell? w _ hn
 simp at hrl
 have h2':pr≠pa:=fun q=>h2 q.symm
 have h3':pr≠pe:=fun q=>h3 q.symm
 have hm:aq (fun k=>k=pa∨k=pe) w (((w.setCell ⟨pa,0,none⟩ (.int .i64 a)).setCell ⟨pe,0,none⟩ (.int .i64 e)).alloc (.cells #[.int .i64 a,.int .i64 e] 126)) :=
  (((aq.refl _ w).setCell (p:=⟨pa,0,none⟩) (fun _=>.inl rfl) _).setCell (p:=⟨pe,0,none⟩) (fun _=>.inr rfl) _).alloc _
 have hno:¬ (pr=pa∨pr=pe):=fun q=>q.elim h2' h3'
 have k0:=(hm.cell (p:=⟨pr,0,none⟩) hrl hno).trans hn
 have k1:=(hm.cell (p:=⟨pr,1,none⟩) hrl hno).trans hc
 have y0:=(hm.frozen (p:=⟨pr,0,none⟩) hrl hno).trans fn
 have y1:=(hm.frozen (p:=⟨pr,1,none⟩) hrl hno).trans fc
 clear hm hno ha he hn hc fa fe fn fc
 refine callsD_of_wpS func125 rfl fun c₀ cs hu=>?_
 apply wpS_seq
 apply wpS_region
 simp [wpOpsS,go_sem,recoverD,hu,ntmps125,Exit.thenS]
 refine HCF.out.mono ?_
 rintro e' w1 ⟨rfl,rfl⟩
 refine wpS_cond (t:=true) (by simp [Act.eval,Array.replicate]) ?_
 simp only[if_true]
 apply wpS_region
 simp [wpOpsS,go_sem,k0,k1,y0,y1,bodyPostS,results,results125]
structure PS (w0:World) (n:Nat) (cs:Array Value) (w:World):Prop where
 q:af w n 57 cs
 a:af w (n+1) 3 #[.int .i64 0]
 e:af w (n+1+1) 29 #[.int .i64 0]
 b:Below n w0 w
 s:n+3<=w.heap.size
section
variable {w0 w w' : World} {n : Nat} {cs : Array Value}
theorem PS.below (h:PS w0 n cs w) (hb:Below (n+3) w w'):PS w0 n cs w' :=
 ⟨h.q.below hb (by omega),h.a.below hb (by omega),h.e.below hb (by omega),h.b.trans (hb.mono (by omega)),Nat.le_trans h.s hb.size⟩
theorem PS.mt {Ts:List TypeId} (h:PS w0 n cs w) (hm:MT (n+3) Ts w w'):PS w0 n cs w':=h.below (hm.below h.s)
theorem PS.keep (h:PS w0 n cs w) (hb:Below w.heap.size w w'):PS w0 n cs w':=h.below (hb.mono h.s)
theorem PS.store (h:PS w0 n cs w) (i:Nat) (u:Value):PS w0 n (cs.setIfInBounds i u) (w.setCell ⟨n,i,none⟩ u) :=
 ⟨h.q.set_ i u,h.a.far (by intro q;simp only at q;omega) u,h.e.far (by intro q;simp only at q;omega) u,h.b.setCell FA u,by simpa [World.setCell] using h.s⟩
end
theorem qj (a e:Int) {w0 w:World} {n:Nat} {x y:Value} (h:PS w0 n #[x,y] w) :
 CallsD prog 125 #[.pointer (some ⟨n+1,0,none⟩),.pointer (some ⟨n+1+1,0,none⟩),.pointer (some ⟨n,0,none⟩)] (.panicking [{ v:=aP a e,recovered:=false }]) w fun x u' w' =>
  x=.returned (.tuple #[])/\u'=.panicking [{ v:=aP a e,recovered:=true }] /\
  w'.cell? ⟨n,0,none⟩=some (.string ⟨#[]⟩)/\w'.cell? ⟨n,1,none⟩=some (.slice none 0 0)/\w'.cell? ⟨n+1,0,none⟩=some (.int .i64 a)/\w'.cell? ⟨n+1+1,0,none⟩=some (.int .i64 e)/\Below n w0 w':=by
 have hs:=h.s
 refine (oV a e (n+1) (n+1+1) n _ _ _ _ [] w (h.a.cell 0) (h.e.cell 0) (h.q.cell 0) (h.q.cell 1) (h.a.frozen 0) (h.e.frozen 0) (h.q.frozen 0) (h.q.frozen 1) (by omega) (by omega) (by omega)).mono ?_
 rintro e' u' w' ⟨rfl,rfl,rfl⟩
 have q1:=((((h.q.far (p:=⟨n+1,0,none⟩) (by intro q;simp only at q;omega) (.int .i64 a)).far (p:=⟨n+1+1,0,none⟩) (by intro q;simp only at q;omega) (.int .i64 e)).alloc (.cells #[.int .i64 a,.int .i64 e] 126)).drew.set_ 0 (.string ⟨#[]⟩)).set_ 1 (.slice none 0 0)
 have a1:=((((h.a.set_ 0 (.int .i64 a)).far (p:=⟨n+1+1,0,none⟩) (by intro q;simp only at q;omega) (.int .i64 e)).alloc (.cells #[.int .i64 a,.int .i64 e] 126)).drew.far (p:=⟨n,0,none⟩) (by intro q;simp only at q;omega) (.string ⟨#[]⟩)).far (p:=⟨n,1,none⟩) (by intro q;simp only at q;omega) (.slice none 0 0)
 have e1:=((((h.e.far (p:=⟨n+1,0,none⟩) (by intro q;simp only at q;omega) (.int .i64 a)).set_ 0 (.int .i64 e)).alloc (.cells #[.int .i64 a,.int .i64 e] 126)).drew.far (p:=⟨n,0,none⟩) (by intro q;simp only at q;omega) (.string ⟨#[]⟩)).far (p:=⟨n,1,none⟩) (by intro q;simp only at q;omega) (.slice none 0 0)
 refine⟨rfl,rfl,q1.cell 0,q1.cell 1,a1.cell 0,e1.cell 0,?_⟩
 have b1:=(((h.b.setCell (p:=⟨n+1,0,none⟩) (by simp only;omega) (.int .i64 a)).setCell (p:=⟨n+1+1,0,none⟩) (by simp only;omega) (.int .i64 e)).alloc (by simp [World.setCell];omega) (.cells #[.int .i64 a,.int .i64 e] 126))
 exact ((ay b1).setCell FA _).setCell FA _
def kz (w:World):PR aU->Ending->World->Prop
 | .bad a f,e,w'=>e=.returned (.tuple #[.agg #[.string ⟨#[]⟩,.slice none 0 0],.int .i64 a,.int .i64 f])/\Below w.heap.size w w'
 | .ok q _,e,w'=>∃ cv,e=.returned (.tuple #[.agg #[.string ⟨q.name.toArray⟩,cv],.int .i64 0,.int .i64 0])/\bV w.heap.size w' cv q.cols/\Below w.heap.size w w'
theorem PS.start (w:World):PS w w.heap.size #[.string ⟨#[]⟩,.slice none 0 0] (((w.alloc (.cells #[.string ⟨#[]⟩,.slice none 0 0] 57)).alloc (.cells #[.int .i64 0] 3)).alloc (.cells #[.int .i64 0] 29)):=by
 refine⟨((af.new w _ _).alloc _).alloc _,?_,?_,ae (ae (ae Fy _) _) _,by simp⟩
 ·have:=(af.new (w.alloc (.cells #[.string ⟨#[]⟩,.slice none 0 0] 57)) 3 #[.int .i64 0]).alloc (.cells #[.int .i64 0] 29)
  simpa using this
 ·have:=af.new ((w.alloc (.cells #[.string ⟨#[]⟩,.slice none 0 0] 57)).alloc (.cells #[.int .i64 0] 3)) 29 #[.int .i64 0]
  simpa using this
theorem gx {w0 w1:World} {a f:Int} {x y:Value} {T:Array Value} (h:PS w0 w0.heap.size #[x,y] w1) (h2:T[2]?.getD undef=.pointer (some ⟨w0.heap.size,0,none⟩)) (h3:T[3]?.getD undef=.pointer (some ⟨w0.heap.size+1,0,none⟩)) (h4:T[4]?.getD undef=.pointer (some ⟨w0.heap.size+1+1,0,none⟩)) :
 bodyPostD prog Tryz.f59 (kz w0 (.bad a f)) (Exit.panic [{ v:=aP a f,recovered:=false }])
  { tmps:=T,defers:=[{ target:=Target.fn (Fn.func 125) #[.pointer (some ⟨w0.heap.size+1,0,none⟩),.pointer (some ⟨w0.heap.size+1+1,0,none⟩),.pointer (some ⟨w0.heap.size,0,none⟩)],args:=#[] }] } w1:=by
 refine leaves_cons (f:=125) (args:=#[.pointer (some ⟨w0.heap.size+1,0,none⟩),.pointer (some ⟨w0.heap.size+1+1,0,none⟩),.pointer (some ⟨w0.heap.size,0,none⟩)]) (by simp) (by simp [go_sem]) ?_
 refine (qj a f h).mono ?_
 rintro e u' w2 ⟨rfl,rfl,c0,c1,c3,c4,hb⟩
 have HB:=Fx hb
 clear hb h
 simp [Leaves,settle,results,results59,go_sem,h2,h3,h4,c0,c1,c3,c4]
 exact⟨rfl,HB.out⟩
theorem PS.fin {w0 w:World} {n:Nat} {x y:Value} (h:PS w0 n #[x,y] w) :
 PS w0 n #[x,y] ((((w.setCell ⟨n,0,none⟩ x).setCell ⟨n,1,none⟩ y).setCell ⟨n+1,0,none⟩ (.int .i64 0)).setCell ⟨n+1+1,0,none⟩ (.int .i64 0)) /\
 MT 0 [57,3,29] w ((((w.setCell ⟨n,0,none⟩ x).setCell ⟨n,1,none⟩ y).setCell ⟨n+1,0,none⟩ (.int .i64 0)).setCell ⟨n+1+1,0,none⟩ (.int .i64 0)):=by
 have h1:=h.store 0 x
 have h2:=h1.store 1 y
 have a4:=h2.a.set_ 0 (.int .i64 0)
 have q4:=h2.q.far (p:=⟨n+1,0,none⟩) (by intro q;simp only at q;omega) (.int .i64 0)
 have e4:=h2.e.far (p:=⟨n+1,0,none⟩) (by intro q;simp only at q;omega) (.int .i64 0)
 have e5:=e4.set_ 0 (.int .i64 0)
 have q5:=q4.far (p:=⟨n+1+1,0,none⟩) (by intro q;simp only at q;omega) (.int .i64 0)
 have a5:=a4.far (p:=⟨n+1+1,0,none⟩) (by intro q;simp only at q;omega) (.int .i64 0)
 simp only[Array.setIfInBounds] at q5 a5 e5
 refine⟨⟨by simpa using q5,by simpa using a5,by simpa using e5,(h2.b.setCell (by simp only;omega) _).setCell (by simp only;omega) _,by simpa [World.setCell] using h.s⟩,?_⟩
 have m1:MT 0 [57,3,29] w _:=MT.setCell (i:=0) (MT.refl w) h.q (by simp) (Fz) x
 have m2:=MT.setCell (i:=1) m1 h1.q (by simp) (Fz) y
 have m4:=MT.setCell (i:=0) m2 h2.a (by simp) (Fz) (.int .i64 0)
 exact MT.setCell (i:=0) m4 e4 (by simp) (Fz) (.int .i64 0)
theorem Ch {w0 w1:World} {x y:Value} {T:Array Value} {Post:Ending->World->Prop} (h:PS w0 w0.heap.size #[x,y] w1) (h2:T[2]?.getD undef=.pointer (some ⟨w0.heap.size,0,none⟩)) (h3:T[3]?.getD undef=.pointer (some ⟨w0.heap.size+1,0,none⟩)) (h4:T[4]?.getD undef=.pointer (some ⟨w0.heap.size+1+1,0,none⟩))
 (hx:x.oneCell'=true) (hy:y.oneCell'=true)
 (hp:Post (.returned (.tuple #[.agg #[x,y],.int .i64 0,.int .i64 0])) w1) :
 bodyPostD prog Tryz.f59 Post Exit.ret
  { tmps:=T,defers:=[{ target:=Target.fn (Fn.func 125) #[.pointer (some ⟨w0.heap.size+1,0,none⟩),.pointer (some ⟨w0.heap.size+1+1,0,none⟩),.pointer (some ⟨w0.heap.size,0,none⟩)],args:=#[] }] } w1:=by
 have c0:=h.q.cell 0
 have c1:=h.q.cell 1
 have c3:=h.a.cell 0
 have c4:=h.e.cell 0
 simp only[FF] at c0 c1 c3 c4
 have HP:=Fx hp
 clear hp h
 refine leaves_cons (f:=125) (args:=#[.pointer (some ⟨w0.heap.size+1,0,none⟩),.pointer (some ⟨w0.heap.size+1+1,0,none⟩),.pointer (some ⟨w0.heap.size,0,none⟩)]) (by simp) (by simp [go_sem]) ?_
 refine (uh _ _ _ _).mono ?_
 rintro e u' w2 ⟨rfl,rfl,rfl⟩
 simp [Leaves,settle,results,results59,go_sem,h2,h3,h4,c0,c1,c3,c4]
 exact HP.out
theorem CO (s:ByteArray) (w:World) (a f:Int) (hop:∀ W,Below w.heap.size w W->Calls prog 54 #[.string s] W fun e w'=>e=.panicked [{ v:=aP a f,recovered:=false }]/\Below W.heap.size W w') :
 Calls prog 59 #[.string s] w (kz w (.bad a f)):=by
 have hmf:∀ (fn:Fn) (first cap:Array Value) (w:World),(Instr.makeFunc fn first cap).run prog w=.ok (.func fn first cap) w:=fun _ _ _ _=>rfl
 have hps:=PS.start w
 have ho:=hop _ hps.b
 have HPS:=Fx hps
 have HO:=Fx ho
 clear hps ho hop
 go_enter_defers func59,ntmps59
 go_wp2_with fail
 refine HO.out.mono ?_
 rintro e w1 ⟨rfl,hb⟩
 have hp:=HPS.out.keep hb
 have HP:=Fx hp
 clear hb hp
 go_wp2_with fail
 exact gx HP.out rfl rfl rfl
theorem Tryz.info_Col:(prog.info? 109).map (fun i=>(i.zero,i.size,i.bytes))=some (some (.agg #[.string ⟨#[]⟩,.int .i64 0]),2,24):=by kernel_rfl
theorem Aq {α:Type} (P:List ak->PR α) (El:World->List Value->α->Prop) (J:World->List α->Prop) (B:Nat) (Ts:List TypeId) (r:Nat) (vt:Value) (lb:Array Value)
 (hP:dp P) (hB:B<=r) (hR:213∈Ts) (hT:109 ∉ Ts)
 (hJ:∀ (w w':World) (xs:List α),MT B [109,213] w w'->J w xs->J w' xs)
 (hE:∀ (w w':World) (cs:List Value) (x:α),MT B (109::Ts) w w'->El w cs x->El w' cs x)
 (hone:∀ (w:World) (xs:List α) (c:List ak),B<=w.heap.size->J w xs->Rs w r c vt->xs.length+c.length<=200000->Calls prog 127 lb w (aX (fun x c' v w'=>lx 2 El J r vt xs x c' v w') B Ts w (P c)))
 (w:World) (c:List ak) (hc:Rs w r c vt) (hj:J w []) (hw:B<=w.heap.size) :
 Calls prog 196 #[.pointer (some ⟨r,0,none⟩),.func (.func 127) #[] lb] w (aX (fun xs c' v w'=>jW w.heap.size 109 2 El J r vt xs c' v w') B Ts w (aQ P c)):=by
 obtain⟨i0,hi0,hz0,hz1,hz2⟩:=info_parts Tryz.info_Col
 have hlen:=hc.len
 have HONE:=Fx hone
 have HJ:=Fx hJ
 have HE:=Fx hE
 have hone0:=hone w [] c hw hj hc (by simp only[List.length_nil];omega)
 have hTR:109 ∉ [213]:=by decide
 clear hone hJ hE hj hc
 cases hp:P c with
 | bad a e =>
   rw[hp] at hone0
   rw[er hp]
   have HO:=Fx hone0
   clear hp hone0
   go_enter func196,ntmps196
   go_wp2_with fail
   refine HO.out.mono ?_
   rintro e' w1 ⟨rfl,hm⟩
   have HM:=Fx hm
   clear hm
   go_wp2_with fail
   exact⟨rfl,az HM.out⟩
 | ok x c1 =>
   rw[hp] at hone0
   rw[ek hp]
   have HO:=Fx hone0
   have hl1:=hP _ _ _ hp
   clear hp hone0
   have HRES:Hid (bz P [x] c1=bz P [x] c1):=Fx rfl
   generalize hres:bz P [x] c1=RES at HRES ⊢
   clear HRES
   have HRS:=Fx hres
   clear hres
   go_enter func196,ntmps196
   go_wp2_with fail
   refine HO.out.mono ?_
   rintro e' w1 ⟨v,rfl,⟨cs,rfl,⟨hl,h1,he⟩,hj1,hr1⟩,hm⟩
   obtain⟨e0,e1,rfl⟩:=mw hl
   have hsz1:=hm.size
   have hal:MT B [109,213] w1 (w1.alloc (.cells #[e0,e1] 109)):=(MT.refl w1).alloc _
   have HJ1:=Fx (HJ.out _ _ _ hal hj1)
   have HM1:=Fx (hm.alloc (.cells #[e0,e1] 109))
   have HE1:=Fx (show jE 2 El (w1.alloc (.cells #[e0,e1] 109)) [e0,e1] x from ⟨hl,h1,HE.out _ _ _ _ ((MT.refl w1).alloc _) he⟩)
   have HR1:=Fx (hr1.keep (ae Fy (.cells #[e0,e1] 109)))
   have HO1:=Fx (World.ownsRow_lit (base:=w.heap.size) (e:=109) (size:=2) w1 #[e0,e1] 1 hsz1 (by unfold maxLen;omega) rfl)
   clear hl h1 he hj1 hr1 hm hal HO
   go_wp2_with fail
   go_loopw [5] (fun v wr=>∃ (ys:List α) (css:List (List Value)) (cc:List ak) (ad:Option Addr) (cap:Nat),v=.slice ad ys.length cap/\Hid (wr.ownsRow w.heap.size 109 2 (.slice ad ys.length cap) ys.length css.flatten)/\Hid (aH (jE 2 El wr) css ys)/\Hid (J wr ys)/\Hid (Rs wr r cc vt)/\Hid (MT B Ts w wr)/\Hid (bz P ys cc=RES)/\ys.length+cc.length<=200000) (fun v _=>200000 - (match v with | .slice _ n _=>n | _=>0))
   case atStart=>exact⟨[x],[[e0,e1]],c1,some ⟨w1.heap.size,0,none⟩,1,rfl,HO1,Fx ⟨HE1.out,trivial⟩,HJ1,HR1,HM1,HRS,by simp;omega⟩
   case round =>
    obtain⟨ys,css,cc,ad,cap,rfl,OW,AL,JW,RW,MW,RE,hbd⟩:=hrel
    have HIS:=Fx (dh RW.out [44])
    cases him:cV [44] cc with
    | false =>
      have hre:=RE.out
      rw[cY ys him] at hre
      rw[him] at HIS
      subst hre
      clear him
      go_wp2_with fail
      refine HIS.out.mono ?_
      rintro e2 w2 ⟨rfl,hb2⟩
      have HB2:=Fx hb2
      clear hb2
      go_wp2_with fail
      go_ret
      refine⟨_,rfl,⟨css,(aq.ofBelow (F:=fun _=>False) HB2.out).ownsRow OW.out (fun _ _ f=>f),AL.out.mono (fun b a h=>⟨h.1,h.2.1,HE.out _ _ _ _ (MT.ofBelow HB2.out) h.2.2⟩),HJ.out _ _ _ (MT.ofBelow HB2.out) JW.out,RW.out.keep HB2.out⟩,MW.out.plusBelow HB2.out⟩
    | true =>
      obtain⟨t,htk⟩:=fw him
      have hne:1<=cc.length:=by
       cases cc with
       | nil=>simp [cV] at him
       | cons _ _=>simp
      have hdl:(cc.drop 1).length=cc.length - 1:=List.length_drop ..
      rw[him] at HIS
      have HIM:=Fx him
      have HTK:=Fx htk
      clear him htk
      go_wp2_with fail
      refine HIS.out.mono ?_
      rintro e2 w2 ⟨rfl,hb2⟩
      have HMK:=Fx (bf (B:=B) (Ts:=[213]) (RW.out.keep hb2) [44] hB (by simp))
      rw[HTK.out] at HMK
      have HB2:=Fx hb2
      clear hb2
      go_wp2_with fail
      refine HMK.out.mono ?_
      rintro e3 w3 ⟨v3,rfl,⟨rfl,hr3⟩,hm3⟩
      have m03:MT B [213] wr w3:=(MT.ofBelow HB2.out).trans hm3
      have hB3:B<=w3.heap.size:=by have:=MW.out.size;have:=m03.size;omega
      have hone3:=HONE.out w3 ys (cc.drop 1) hB3 (HJ.out _ _ _ (m03.wide (by simp)) JW.out) hr3 (by omega)
      have M03:=Fx m03
      have toTs:∀ t∈[213],t∈Ts:=fun t ht=>by simp at ht;subst ht;exact hR
      have TOTS:=Fx toTs
      clear hr3 hm3 m03 toTs
      unfold ak.v
      cases hp:P (cc.drop 1) with
      | bad a e =>
        rw[hp] at hone3
        have hre:=RE.out
        rw[ea ys HIM.out hp] at hre
        subst hre
        have HO3:=Fx hone3
        clear hp hone3
        go_wp2_with fail
        refine HO3.out.mono ?_
        rintro e4 w4 ⟨rfl,hm4⟩
        have HM4:=Fx hm4
        clear hm4
        go_wp2_with fail
        exact⟨rfl,az ((MW.out.trans (M03.out.wide TOTS.out)).trans HM4.out)⟩
      | ok x c4 =>
        rw[hp] at hone3
        have hre:=dQ hP ys HIM.out hp
        have hl4:=hP _ _ _ hp
        have hrq:=hre.1
        rw[RE.out] at hrq
        have HRE:=Fx hrq.symm
        have HO3:=Fx hone3
        clear hp hone3 hre hrq
        go_wp2_with fail
        refine HO3.out.mono ?_
        rintro e4 w4 ⟨v4,rfl,⟨cs4,rfl,⟨hl,h1,he⟩,hj4,hr4⟩,hm4⟩
        obtain⟨e0,e1,rfl⟩:=mw hl
        have m04:MT B Ts wr w4:=(M03.out.wide TOTS.out).trans hm4
        have HO4:=Fx (m04.ownsRow OW.out hT)
        have HW4:=Fx (MW.out.trans m04)
        have hsz4:=HW4.out.size
        have M04:=Fx m04
        have H1:=Fx h1
        have HEL:=Fx he
        have HJ4:=Fx hj4
        have HR4:=Fx hr4
        clear hl h1 he hj4 hr4 hm4 m04
        go_wp2_with (at_builtin;refine wpList_append_lies _ rfl (.tmp 13) (.tmp 16) 55 rfl w.heap.size 109 i0 (.agg #[.string ⟨#[]⟩,.int .i64 0]) 2 24 underlying55 hi0 hz0 hz1 hz2 rfl (by decide) (.slice ad ys.length cap) ys.length _ rfl (HO4.out.alloc _) ⟨_,0,none⟩ 1 1 [e0,e1] rfl rfl (World.news_of_block (af.new _ _ _)) H1.out (by decide) ?c3 ?c5 ?c4 _ rfl ?_)
        case c3=>unfold maxLen;omega
        case c5=>omega
        case c4=>simp;omega
        intro g cap1 w5 hown2 hgrow2 hat2 hlt2
        have m45:MT B [109] w4 w5:=((MT.refl w4).alloc _).grown hgrow2 (HO4.out.alloc _) (by simp) hw
        have mall:MT B (109::Ts) wr w5:=(M04.out.wide (fun _ h=>List.mem_cons_of_mem _ h)).trans (m45.wide (by simp))
        have HO5:=Fx hown2
        have MALL:=Fx mall
        have M45:=Fx m45
        have HG:=Fx hgrow2
        clear hown2 hgrow2 hat2 hlt2 m45 mall
        go_wp2_with fail
        go_roundw
        case rel =>
         refine⟨ys++[x],css++[[e0,e1]],c4,some ⟨g,0,none⟩,cap1,by simp,Fx ?_,Fx ?_,Fx (HJ.out _ _ _ (M45.out.wide (by simp)) HJ4.out),Fx (HR4.out.mt M45.out (by decide) (by decide)),Fx ?_,HRE,by simp;omega⟩
         ·have:=HO5.out
          simpa [List.flatten_append] using this
         ·exact (AL.out.mono (fun b a h=>⟨h.1,h.2.1,HE.out _ _ _ _ MALL.out h.2.2⟩)).snoc ⟨rfl,H1.out,HE.out _ _ _ _ (M45.out.wide (by simp)) HEL.out⟩
         ·exact aq.grown (HW4.out.alloc _) HG.out (fun k hk hlt=>by have:=(HO4.out.lt k hk).1;omega)
        case measure=>simp;omega
theorem AG {α:Type} (P:List ak->PR α) (El:World->List Value->α->Prop) (J:World->List α->Prop) (B:Nat) (Ts:List TypeId) (r:Nat) (vt:Value) (lb:Array Value)
 (hP:dp P) (hB:B<=r) (hR:213∈Ts) (hT:109 ∉ Ts)
 (hJ:∀ (w w':World) (xs:List α),MT B [109,213] w w'->J w xs->J w' xs)
 (hE:∀ (w w':World) (cs:List Value) (x:α),MT B (109::Ts) w w'->El w cs x->El w' cs x)
 (hone:∀ (w:World) (xs:List α) (c:List ak),B<=w.heap.size->J w xs->Rs w r c vt->xs.length+c.length<=200000->Calls prog 127 lb w (aX (fun x c' v w'=>lx 2 El J r vt xs x c' v w') B Ts w (P c)))
 (w:World) (c:List ak) (hc:Rs w r c vt) (hj:J w []) (hw:B<=w.heap.size) :
 Calls prog 126 #[.pointer (some ⟨r,0,none⟩),.func (.func 127) #[] lb] w (aX (fun xs c' v w'=>jW w.heap.size 109 2 El J r vt xs c' v w') B Ts w (aJ P c)):=by
 have HSOME:=Fx (fun W C=>Aq P El J B Ts r vt lb hP hB hR hT hJ hE hone W C)
 have HJ:=Fx hJ
 have HE:=Fx hE
 have hmk:=bf (B:=B) (Ts:=[213]) hc [40] hB (by simp)
 have HJW:=Fx hj
 have toTs:∀ t∈[213],t∈Ts:=fun t ht=>by simp at ht;subst ht;exact hR
 have TOTS:=Fx toTs
 clear hone hJ hE hj hc toTs
 cases h0:tk 3 [[40]] c with
 | bad a e =>
   rw[h0] at hmk
   rw[iX h0]
   have HMK:=Fx hmk
   clear hmk h0
   go_enter func126,ntmps126
   go_wp2_with fail
   refine HMK.out.mono ?_
   rintro e1 w1 ⟨rfl,hm⟩
   have HM:=Fx hm
   clear hm
   go_wp2_with fail
   exact⟨rfl,az (HM.out.wide TOTS.out)⟩
 | ok t c1 =>
   rw[h0] at hmk
   have H0:=Fx h0
   have HMK:=Fx hmk
   clear hmk h0
   cases him:cV [41] c1 with
   | true =>
     rw[eY H0.out him]
     obtain⟨u,hu⟩:=fw him
     have HIM:=Fx him
     have HU:=Fx hu
     clear him hu
     go_enter func126,ntmps126
     go_wp2_with fail
     refine HMK.out.mono ?_
     rintro e1 w1 ⟨v1,rfl,⟨rfl,hr1⟩,hm⟩
     have HM:=Fx hm
     have HR1:=Fx hr1
     have his:=dh hr1 [41]
     rw[HIM.out] at his
     have HIS:=Fx his
     clear hm hr1 his
     unfold ak.v
     go_wp2_with fail
     refine HIS.out.mono ?_
     rintro e2 w2 ⟨rfl,hb2⟩
     have hmk2:=bf (B:=B) (Ts:=[213]) (HR1.out.keep hb2) [41] hB (by simp)
     rw[HU.out] at hmk2
     have HMK2:=Fx hmk2
     have HB2:=Fx hb2
     clear hb2 hmk2
     go_wp2_with fail
     refine HMK2.out.mono ?_
     rintro e3 w3 ⟨v3,rfl,⟨rfl,hr3⟩,hm3⟩
     have m3:MT B [213] w w3:=(HM.out.plusBelow HB2.out).trans hm3
     have M3:=Fx m3
     have HR3:=Fx hr3
     clear hr3 hm3 m3
     unfold ak.v
     go_wp2_with fail
     go_ret
     exact⟨_,rfl,⟨[],World.ownsRow_nil _ _ _ _,trivial,HJ.out _ _ _ (M3.out.wide (by simp)) HJW.out,HR3.out⟩,M3.out.wide TOTS.out⟩
   | false =>
     have HIM:=Fx him
     clear him
     cases hs:aQ P c1 with
     | bad a e =>
       rw[iZ H0.out HIM.out hs]
       have HS:=Fx hs
       clear hs
       go_enter func126,ntmps126
       go_wp2_with fail
       refine HMK.out.mono ?_
       rintro e1 w1 ⟨v1,rfl,⟨rfl,hr1⟩,hm⟩
       have HM:=Fx hm
       have HR1:=Fx hr1
       have his:=dh hr1 [41]
       rw[HIM.out] at his
       have HIS:=Fx his
       clear hm hr1 his
       unfold ak.v
       go_wp2_with fail
       refine HIS.out.mono ?_
       rintro e2 w2 ⟨rfl,hb2⟩
       have m2:MT B [213] w w2:=HM.out.plusBelow hb2
       have hso:=HSOME.out w2 c1 (HR1.out.keep hb2) (HJ.out _ _ _ (m2.wide (by simp)) HJW.out) (by have:=m2.size;omega)
       rw[HS.out] at hso
       have HSO:=Fx hso
       have M2:=Fx m2
       clear hso m2 hb2
       go_wp2_with fail
       refine HSO.out.mono ?_
       rintro e3 w3 ⟨rfl,hm3⟩
       have HM3:=Fx hm3
       clear hm3
       go_wp2_with fail
       exact⟨rfl,az ((M2.out.wide TOTS.out).trans HM3.out)⟩
     | ok xs c2 =>
       cases h4:tk 3 [[41]] c2 with
       | bad a e =>
         rw[iO H0.out HIM.out hs h4]
         have HS:=Fx hs
         have H4:=Fx h4
         clear hs h4
         go_enter func126,ntmps126
         go_wp2_with fail
         refine HMK.out.mono ?_
         rintro e1 w1 ⟨v1,rfl,⟨rfl,hr1⟩,hm⟩
         have HM:=Fx hm
         have HR1:=Fx hr1
         have his:=dh hr1 [41]
         rw[HIM.out] at his
         have HIS:=Fx his
         clear hm hr1 his
         unfold ak.v
         go_wp2_with fail
         refine HIS.out.mono ?_
         rintro e2 w2 ⟨rfl,hb2⟩
         have m2:MT B [213] w w2:=HM.out.plusBelow hb2
         have hso:=HSOME.out w2 c1 (HR1.out.keep hb2) (HJ.out _ _ _ (m2.wide (by simp)) HJW.out) (by have:=m2.size;omega)
         rw[HS.out] at hso
         have HSO:=Fx hso
         have M2:=Fx m2
         clear hso m2 hb2
         go_wp2_with fail
         refine HSO.out.mono ?_
         rintro e3 w3 ⟨v3,rfl,⟨css,hown,hal,hj3,hr3⟩,hm3⟩
         obtain⟨ad,cap,rfl⟩:=aB hown
         have hmk3:=bf (B:=B) (Ts:=[213]) hr3 [41] hB (by simp)
         rw[H4.out] at hmk3
         have hl2:=M2.out.size
         have HOWN:=Fx (World.ownsRow.low hown hl2)
         have HAL:=Fx hal
         have HJ3:=Fx hj3
         have HM3:=Fx ((M2.out.wide TOTS.out).trans hm3)
         have HMK3:=Fx hmk3
         clear hown hal hj3 hm3 hr3 hmk3
         go_wp2_with fail
         refine HMK3.out.mono ?_
         rintro e4 w4 ⟨rfl,hm4⟩
         have HM4:=Fx hm4
         clear hm4
         go_wp2_with fail
         exact⟨rfl,az (HM3.out.trans (HM4.out.wide TOTS.out))⟩
       | ok u c3 =>
         rw[iL H0.out HIM.out hs h4]
         have HS:=Fx hs
         have H4:=Fx h4
         clear hs h4
         go_enter func126,ntmps126
         go_wp2_with fail
         refine HMK.out.mono ?_
         rintro e1 w1 ⟨v1,rfl,⟨rfl,hr1⟩,hm⟩
         have HM:=Fx hm
         have HR1:=Fx hr1
         have his:=dh hr1 [41]
         rw[HIM.out] at his
         have HIS:=Fx his
         clear hm hr1 his
         unfold ak.v
         go_wp2_with fail
         refine HIS.out.mono ?_
         rintro e2 w2 ⟨rfl,hb2⟩
         have m2:MT B [213] w w2:=HM.out.plusBelow hb2
         have hso:=HSOME.out w2 c1 (HR1.out.keep hb2) (HJ.out _ _ _ (m2.wide (by simp)) HJW.out) (by have:=m2.size;omega)
         rw[HS.out] at hso
         have HSO:=Fx hso
         have M2:=Fx m2
         clear hso m2 hb2
         go_wp2_with fail
         refine HSO.out.mono ?_
         rintro e3 w3 ⟨v3,rfl,⟨css,hown,hal,hj3,hr3⟩,hm3⟩
         obtain⟨ad,cap,rfl⟩:=aB hown
         have hmk3:=bf (B:=B) (Ts:=[213]) hr3 [41] hB (by simp)
         rw[H4.out] at hmk3
         have hl2:=M2.out.size
         have HOWN:=Fx (World.ownsRow.low hown hl2)
         have HAL:=Fx hal
         have HJ3:=Fx hj3
         have HM3:=Fx ((M2.out.wide TOTS.out).trans hm3)
         have HMK3:=Fx hmk3
         clear hown hal hj3 hm3 hr3 hmk3
         go_wp2_with fail
         refine HMK3.out.mono ?_
         rintro e4 w4 ⟨v4,rfl,⟨rfl,hr4⟩,hm4⟩
         have HM4:=Fx hm4
         have HR4:=Fx hr4
         clear hm4 hr4
         unfold ak.v
         go_wp2_with fail
         go_ret
         exact⟨_,rfl,⟨css,HM4.out.ownsRow HOWN.out (by decide),HAL.out.mono (fun b a h=>⟨h.1,h.2.1,HE.out _ _ _ _ ((HM4.out.wide TOTS.out).wide (fun _ h=>List.mem_cons_of_mem _ h)) h.2.2⟩),HJ.out _ _ _ (HM4.out.wide (by simp)) HJ3.out,HR4.out⟩,HM3.out.trans (HM4.out.wide TOTS.out)⟩
theorem Eh {w:World} {g h:Nat} {t u:TypeId} {cs ds:Array Value} (h1:af w g t cs) (h2:af w h u ds) (hne:t≠u):g≠h:=fun e=>by
 subst e
 unfold af at h1 h2
 rw[h1] at h2
 injection h2 with h2
 injection h2 with _ e _
 exact hne e
def CA (B:Nat) (w:World) (bp:Nat) (ps:List Int):Prop:=∃ pv,af w bp 215 #[pv]/\oy B w pv ps
theorem CA.mt {B B':Nat} {w w':World} {bp:Nat} {ps:List Int} {Ts:List TypeId} (h:CA B w bp ps) (hm:MT B' Ts w w') (h1:215 ∉ Ts) (h2:3 ∉ Ts):CA B w' bp ps:=by
 obtain⟨pv,h3,h4⟩:=h
 exact⟨pv,h3.mt hm h1,hm.ownsRow h4 h2⟩
abbrev Bg:List TypeId:=[213,215,3]
def E1 (_:World) (cs:List Value) (x:jU):Prop:=cs=(jj x).cells
def JC (B b r bp:Nat) (w:World) (xs:List jU):Prop:=dD w b r/\CA B w bp (xs.map (·.2.2))
theorem uI {w:World} {b r bp:Nat} {c:List ak} {vt:Value} {B:Nat} {xs:List jU} (hi:dD w b r) (hp:CA B w bp (xs.map (·.2.2))) (h:Rs w r c vt) (hB:B<=r) (hw:B<=w.heap.size) (hbp:B<=bp) (hlen:xs.length+c.length<=200000) :
 Calls prog 127 #[.pointer (some ⟨b,0,none⟩),.pointer (some ⟨bp,0,none⟩)] w (aX (fun x c' v w'=>lx 2 E1 (JC B b r bp) r vt xs x c' v w') B Bg w (eo c)):=by
 obtain⟨ii,hii,hn0,hn1,hn2⟩:=info_parts Tryz.infoInt
 have hf1:∀ (a b c d e f:Value) (w:World),(Instr.field 122 (.agg #[a,b,c,d,e,f]) 1).run prog w=.ok b w:=fun _ _ _ _ _ _ _=>by kernel_rfl
 have hb0:Below w.heap.size w (w.alloc (.cells #[.string ⟨#[]⟩,.int .i64 0] 109)):=ae Fy _
 have htk:=cN (B:=B) (Ts:=[213]) (h.keep hb0) 1 [] _ (eE _) hB (by simp)
 have zb:=af.new w 109 #[.string ⟨#[]⟩,.int .i64 0]
 have hi0:dD (w.alloc (.cells #[.string ⟨#[]⟩,.int .i64 0] 109)) b r:=af.alloc hi _
 have hp0:CA B (w.alloc (.cells #[.string ⟨#[]⟩,.int .i64 0] 109)) bp (xs.map (·.2.2)):=hp.mt (MT.ofBelow (B:=0) (Ts:=[]) hb0) (by simp) (by simp)
 have x0:=af.cell hi 0
 have hbl:=af.lt hi
 simp at x0
 have hlx:(xs.map (·.2.2)).length<=200000:=by simp;omega
 obtain⟨ps,hps⟩:∃ ps,xs.map (·.2.2)=ps:=⟨_,rfl⟩
 rw[hps] at hp0 hlx
 have HPS:=Fx hps
 have HI0:=Fx hi0
 have HP0:=Fx hp0
 have HB0:=Fx hb0
 have ZB:=Fx zb
 clear h hb0 zb hi hi0 hp hp0 hps
 cases h0:tk 1 [] c with
 | bad a e =>
   rw[h0] at htk
   rw[tm h0]
   have HTK:=Fx htk
   clear h0 htk
   go_enter func127,ntmps127
   go_wp2_with fail
   refine HTK.out.mono ?_
   rintro e w1 ⟨rfl,hm⟩
   have HM:=Fx hm
   clear hm
   go_wp2_with fail
   exact⟨rfl,az ((MT.ofBelow HB0.out).trans (HM.out.wide (by simp)))⟩
 | ok t c1 =>
   rw[h0] at htk
   have HTK:=Fx htk
   have H0:=Fx h0
   clear htk h0
   obtain⟨Q,hQ⟩:∃ Q,Q=eo c:=⟨_,rfl⟩
   rw[<-hQ]
   have HQ:=Fx hQ
   clear hQ
   go_enter func127,ntmps127
   go_wp2_with fail
   refine HTK.out.mono ?_
   rintro e w1 ⟨v,rfl,⟨rfl,hr1⟩,hm1⟩
   have zb1:=ZB.out.mt hm1 (by decide)
   have hi1:dD w1 b r:=af.mt HI0.out hm1 (by decide)
   obtain⟨pv,hpb1,hpo1⟩:=HP0.out.mt hm1 (by decide) (by decide)
   obtain⟨pa,pc,rfl⟩:=aB hpo1
   have p0:=hpb1.cell 0
   have hpl:=hpb1.lt
   have hw1:w.heap.size<w1.heap.size:=by have:=zb1.lt;exact this
   simp only[List.getElem?_toArray,List.getElem?_cons_zero] at p0
   have HZ1:=Fx zb1
   have HI1:=Fx hi1
   have HPB1:=Fx hpb1
   have HPO1:=Fx (show w1.ownsRow B 3 1 (.slice pa ps.length pc) ps.length (ps.map fun p=>.int .i64 p) from hpo1)
   have HR1:=Fx hr1
   have HM1:=Fx hm1
   clear zb1 hi1 hpb1 hpo1 hr1 hm1 HTK
   unfold ak.v
   generalize hnn:ps.length=n at *
   go_wp2_with (at_builtin;refine wpList_append_lies _ rfl (.tmp 7) (.tmp 10) 215 rfl B 3 ii (.int .i64 0) 1 8 underlying215 hii hn0 hn1 hn2 rfl (by decide) (.slice pa n pc) n _ rfl ((HPO1.out.alloc _).alloc _) ⟨_,0,none⟩ 1 1 [.int .i64 t.p] rfl rfl (World.news_of_block (cM _ _ _ _)) (by simp [Value.oneCell']) (by decide) ?c3 ?c5 ?c4 _ rfl ?_)
   case c3=>unfold maxLen;omega
   case c5=>omega
   case c4=>simp;omega
   intro g cap1 w2 hown2 hgrow2 hat2 hlt2
   have bk:Below w1.heap.size w1 ((w1.alloc (.cells #[.int .i64 t.k,.string ⟨t.x.toArray⟩,.int .i64 t.vk,.int .i64 t.vn,.string ⟨t.vt.toArray⟩,.int .i64 t.p] 122)).alloc (.cells #[.int .i64 t.p] 3)):=ae (ae Fy _) _
   have m2:MT B [3] _ w2:=(MT.refl _).grown hgrow2 ((HPO1.out.alloc _).alloc _) (by simp) FA
   have hpb2:=((HPB1.out.alloc _).alloc _).mt m2 (by decide)
   have hi2:dD w2 b r:=af.mt (af.alloc (af.alloc HI1.out _) _) m2 (by decide)
   have tb2:=((af.new w1 122 #[.int .i64 t.k,.string ⟨t.x.toArray⟩,.int .i64 t.vk,.int .i64 t.vn,.string ⟨t.vt.toArray⟩,.int .i64 t.p]).alloc (.cells #[.int .i64 t.p] 3)).mt m2 (by decide)
   have zb2:=((HZ1.out.alloc _).alloc _).mt m2 (by decide)
   have hr2:=(HR1.out.keep bk).mt m2 (by decide) (by decide)
   have z0:=hpb2.cell 0
   have zy:=hpb2.frozen 0
   have zl:=hpb2.lt
   have k2:=af.cell hi2 0
   have k2l:=af.lt hi2
   have hne:b≠bp:=Eh hi2 hpb2 (by decide)
   have hne':bp≠b:=fun e=>hne e.symm
   simp only[List.getElem?_toArray,List.getElem?_cons_zero] at z0 k2
   have ms:MT B [215] w2 (w2.setCell ⟨bp,0,none⟩ (.slice (some ⟨g,0,none⟩) (n+1) cap1)):=MT.setCell (MT.refl w2) hpb2 (by simp) hbp _
   have hpb3:=hpb2.set_ 0 (.slice (some ⟨g,0,none⟩) (n+1) cap1)
   simp only[Array.setIfInBounds] at hpb3
   have HPL3:Hid (CA B (w2.setCell ⟨bp,0,none⟩ (.slice (some ⟨g,0,none⟩) (n+1) cap1)) bp (ps++[t.p])):=Fx ⟨_,by simpa using hpb3,by
    have:=ms.ownsRow hown2 (by decide)
    unfold oy
    rw[List.length_append,hnn]
    simpa using this⟩
   have HI3:=Fx (show dD _ b r from af.mt hi2 ms (by decide))
   have HTB3:=Fx (tb2.mt ms (by decide))
   have HZ3:=Fx (zb2.mt ms (by decide))
   have HMT3:Hid (MT B Bg w (w2.setCell ⟨bp,0,none⟩ (.slice (some ⟨g,0,none⟩) (n+1) cap1))):=Fx ((((MT.ofBelow HB0.out).trans (HM1.out.wide (by simp))).plusBelow bk).trans ((m2.wide (by simp)).trans (ms.wide (by simp))))
   have hr3:=hr2.mt ms (by decide) (by decide)
   have hx:TX ((w2.setCell ⟨bp,0,none⟩ (.slice (some ⟨g,0,none⟩) (n+1) cap1)).alloc (.cells #[.string ⟨#[105,110,116]⟩,.string ⟨#[116,101,120,116]⟩] 9)) (.slice (some ⟨w2.heap.size,0,none⟩) 2 2) [[105,110,116],[116,101,120,116]]:=by
    have hbs:=mF w2 ⟨bp,0,none⟩ (.slice (some ⟨g,0,none⟩) (n+1) cap1) 9 #[.string ⟨#[105,110,116]⟩,.string ⟨#[116,101,120,116]⟩]
    refine⟨by simp,some ⟨w2.heap.size,0,none⟩,2,rfl,.inr ⟨w2.heap.size,0,rfl,hbs.lt,?_⟩⟩
    intro j s hj
    match j with
    | 0=>simp at hj;subst hj;exact hbs.cell 0
    | 1=>simp at hj;subst hj;exact hbs.cell 1
    | j+2=>simp at hj
   have htk2:=cN (B:=B) (Ts:=[213]) (hr3.keep (ae Fy (.cells #[.string ⟨#[105,110,116]⟩,.string ⟨#[116,101,120,116]⟩] 9))) 1 [[105,110,116],[116,101,120,116]] _ hx hB (by simp)
   have hw2:w1.heap.size<w2.heap.size:=by have:=tb2.lt;exact this
   clear bk m2 hpb2 hi2 tb2 zb2 hr2 ms hpb3 hr3 hx hown2 hgrow2 hat2 hlt2 HPO1 HPB1 HI1 HZ1 HR1 HM1
   cases h1:tk 1 [[105,110,116],[116,101,120,116]] c1 with
   | bad a e =>
     rw[h1] at htk2
     have hq:=HQ.out
     rw[na H0.out h1] at hq
     subst hq
     have HTK:=Fx htk2
     clear htk2 h1
     go_wp2_with fail
     refine HTK.out.mono ?_
     rintro e w3 ⟨rfl,hm3⟩
     have HM3:=Fx (((HMT3.out.alloc _).trans (hm3.wide (by simp))))
     clear hm3
     go_wp2_with fail
     exact⟨rfl,az HM3.out⟩
   | ok u c2 =>
     rw[h1] at htk2
     have hq:=HQ.out
     rw[mY H0.out h1] at hq
     obtain⟨KQ,hKQ⟩:∃ KQ:Int,KQ=(if u.x=[116,101,120,116] then 2 else 1):=⟨_,rfl⟩
     rw[<-hKQ] at hq
     have HKQ:=Fx hKQ
     clear hKQ
     subst hq
     have HTK:=Fx htk2
     clear htk2 h1
     go_wp2_with fail
     refine HTK.out.mono ?_
     rintro e w3 ⟨v,rfl,⟨rfl,hr3⟩,hm3⟩
     have tb4:=(HTB3.out.alloc (.cells #[.string ⟨#[105,110,116]⟩,.string ⟨#[116,101,120,116]⟩] 9)).mt hm3 (by decide)
     have d1:=tb4.cell 1
     have d1l:=tb4.lt
     simp only[FF] at d1
     have HZ4:=Fx ((HZ3.out.alloc (.cells #[.string ⟨#[105,110,116]⟩,.string ⟨#[116,101,120,116]⟩] 9)).mt hm3 (by decide))
     have HI4:=Fx (show dD w3 b r from af.mt (af.alloc HI3.out _) hm3 (by decide))
     have HPL4:=Fx ((HPL3.out.mt ((MT.refl (B:=0) (Ts:=[]) _).alloc _) (by simp) (by simp)).mt hm3 (by decide) (by decide))
     have HM4:=Fx (((HMT3.out.alloc (.cells #[.string ⟨#[105,110,116]⟩,.string ⟨#[116,101,120,116]⟩] 9)).trans (hm3.wide (by simp))))
     have HR4:=Fx hr3
     clear tb4 hr3 hm3 HTK HTB3 HZ3 HI3 HPL3 HMT3
     unfold ak.v
     have key:∀ (kk:Int) (w4:World),KQ=kk->af w4 w.heap.size 109 #[.string ⟨t.x.toArray⟩,.int .i64 kk]->aq (fun k=>k=w.heap.size) w3 w4->aX (fun x c' v w'=>lx 2 E1 (JC B b r bp) r vt xs x c' v w') B Bg w (.ok (t.x,KQ,t.p) c2) (.returned (.agg #[.string ⟨t.x.toArray⟩,.int .i64 kk])) w4:=by
      intro kk w4 hkk hb4 hm4
      have m4:MT 0 [109] w3 w4:=MT.ofMod hm4 HZ4.out (by simp) (Fz)
      subst hkk
      refine⟨_,rfl,⟨[.string ⟨t.x.toArray⟩,.int .i64 KQ],rfl,⟨rfl,?_,rfl⟩,⟨af.mt HI4.out m4 (by decide),?_⟩,HR4.out.mt m4 (by decide) (by decide)⟩,HM4.out.own hm4 FA⟩
      ·intro z hz
       simp only[List.mem_cons,List.not_mem_nil,or_false] at hz
       rcases hz with rfl | rfl<;>rfl
      ·have:=HPL4.out.mt m4 (by decide) (by decide)
       rw[List.map_append,HPS.out]
       exact this
     have KEY:=Fx key
     clear key
     by_cases hux:u.x=[116,101,120,116]
     ·have q1:(u.x == [116,101,120,116])=true:=by rw[hux];rfl
      have hk:=fun w4=>KEY.out 2 w4 (by rw[HKQ.out,if_pos hux])
      have HK:=Fx hk
      clear hk hux
      go_wp2_with (refine ar rfl 109 _ _ rfl w.heap.size 109 _ _ rfl rfl HZ4.out (by kernel_rfl) rfl (by simp [Value.oneCell']) ?_)
      intro w4 hb4 hm4 hz4
      have r0:=hb4.cell 0
      have r1:=hb4.cell 1
      simp only[FF] at r0 r1
      have HP:=Fx (HK.out w4 hb4 hm4)
      clear hb4 hm4 hz4
      go_wp2_with fail
      exact bodyPost_ret (v:=.agg #[.string ⟨t.x.toArray⟩,.int .i64 2]) (by simp [results,results127,go_sem, *]) rfl HP.out
     ·have q1:(u.x == [116,101,120,116])=false:=by simpa using hux
      have hk:=fun w4=>KEY.out 1 w4 (by rw[HKQ.out,if_neg hux])
      have HK:=Fx hk
      clear hk hux
      go_wp2_with (refine ar rfl 109 _ _ rfl w.heap.size 109 _ _ rfl rfl HZ4.out (by kernel_rfl) rfl (by simp [Value.oneCell']) ?_)
      intro w4 hb4 hm4 hz4
      have r0:=hb4.cell 0
      have r1:=hb4.cell 1
      simp only[FF] at r0 r1
      have HP:=Fx (HK.out w4 hb4 hm4)
      clear hb4 hm4 hz4
      go_wp2_with fail
      exact bodyPost_ret (v:=.agg #[.string ⟨t.x.toArray⟩,.int .i64 1]) (by simp [results,results127,go_sem, *]) rfl HP.out
theorem sf {w:World}:∀ {css:List (List Value)} {xs:List jU},aH (jE 2 E1 w) css xs->css=xs.map fun x=>(jj x).cells
 | [],[],_=>rfl
 | c::css,x::xs,h=>by
   rw[List.map_cons,<-sf h.2]
   have h1:c=(jj x).cells:=h.1.2.2
   rw[h1]
 | [],_::_,h=>h.elim
 | _::_,[],h=>h.elim
theorem BP {α:Type} (f:α->List Value) (l:List α):(l.map f).flatten=l.flatMap f:=by
 induction l with
 | nil=>rfl
 | cons a l ih=>simp [ih]
theorem BE {w:World} {b r bp:Nat} {c:List ak} {vt:Value} {B:Nat} (hi:dD w b r) (hp:CA B w bp []) (h:Rs w r c vt) (hB:B<=r) (hw:B<=w.heap.size) (hbp:B<=bp) :
 Calls prog 126 #[.pointer (some ⟨r,0,none⟩),.func (.func 127) #[] #[.pointer (some ⟨b,0,none⟩),.pointer (some ⟨bp,0,none⟩)]] w
  (aX (fun xs c' v w'=>bV w.heap.size w' v (xs.map jj)/\dD w' b r/\CA B w' bp (xs.map (·.2.2))/\Rs w' r c' vt) B Bg w (aJ eo c)):=by
 refine (AG eo E1 (JC B b r bp) B Bg r vt #[.pointer (some ⟨b,0,none⟩),.pointer (some ⟨bp,0,none⟩)] kx hB (by simp) (by decide) (fun w w' xs hm hj=>⟨af.mt hj.1 hm (by decide),hj.2.mt hm (by decide) (by decide)⟩) (fun _ _ _ _ _ h=>h) ?_ w c h ⟨hi,by simpa using hp⟩ hw).mono ?_
 ·intro w xs c hw hj hr hl
  exact uI hj.1 hj.2 hr hB hw hbp hl
 ·intro e w' hp
  refine hp.mono fun xs c' v w' hh=>?_
  obtain⟨css,h1,h2,h3,h4⟩:=hh
  refine⟨?_,h3.1,h3.2,h4⟩
  rw[sf h2,BP] at h1
  unfold bV
  rw[List.length_map,List.flatMap_map]
  exact h1
theorem Ad (s:ByteArray) (w:World) (ts:List ak) (hop:∀ W,Below w.heap.size w W->Calls prog 54 #[.string s] W fun e w'=>∃ r vt,e=.returned (.pointer (some ⟨r,0,none⟩))/\W.heap.size<=r/\Rs w' r ts vt/\Below W.heap.size W w') :
 Calls prog 59 #[.string s] w (kz w (jG ts)):=by
 have hmf:∀ (fn:Fn) (first cap:Array Value) (w:World),(Instr.makeFunc fn first cap).run prog w=.ok (.func fn first cap) w:=fun _ _ _ _=>rfl
 have hf1:∀ (a b c d e f:Value) (w:World),(Instr.field 122 (.agg #[a,b,c,d,e,f]) 1).run prog w=.ok b w:=fun _ _ _ _ _ _ _=>by kernel_rfl
 have hps:=PS.start w
 have ho:=hop _ hps.b
 have HPS:=Fx hps
 have HO:=Fx ho
 obtain⟨Q,hQ⟩:∃ Q,Q=jG ts:=⟨_,rfl⟩
 rw[<-hQ]
 have HQ:=Fx hQ
 clear hps ho hop hQ
 go_enter_defers func59,ntmps59
 go_wp2_with fail
 refine HO.out.mono ?_
 rintro e w1 ⟨r,vt,rfl,hr,hrs,hb⟩
 have hp:=HPS.out.keep hb
 have hrB:w.heap.size+3<=r:=by simp at hr;omega
 have hp1:PS w w.heap.size #[.string ⟨#[]⟩,.slice none 0 0] (w1.alloc (.cells #[.pointer (some ⟨r,0,none⟩)] 118)):=hp.keep (ae Fy _)
 have hi:dD (w1.alloc (.cells #[.pointer (some ⟨r,0,none⟩)] 118)) w1.heap.size r:=af.new _ _ _
 have hr1:=hrs.keep (ae (Below.refl _ w1) (.cells #[.pointer (some ⟨r,0,none⟩)] 118))
 have hnb:w.heap.size+3<=w1.heap.size:=hp.s
 have htk:=cN (B:=w.heap.size+3) (Ts:=[213]) hr1 1 [] _ (eE _) hrB (by simp)
 have HP:=Fx hp1
 have HI:=Fx hi
 have hlen:=hr1.len
 clear hb hp hrs hp1 hi hr1 hr HPS HO
 cases h0:tk 1 [] ts with
 | bad a f =>
   have hq:=HQ.out
   rw[lp h0] at hq
   subst hq
   rw[h0] at htk
   have HC:=Fx htk
   clear h0 htk
   go_wp2_with fail
   refine HC.out.mono ?_
   rintro e wx ⟨rfl,hm⟩
   have HPX:=Fx (HP.out.mt hm)
   clear hm
   go_wp2_with fail
   exact gx HPX.out rfl rfl rfl
 | ok t c1 =>
   rw[h0] at htk
   have HC:=Fx htk
   have H0:=Fx h0
   have hl1:=cA _ _ _ _ _ h0
   clear h0 htk
   go_wp2_with fail
   refine HC.out.mono ?_
   rintro e w2 ⟨v2,rfl,⟨rfl,hr2⟩,hm2⟩
   have hp2:=HP.out.mt hm2
   have hi2:dD w2 w1.heap.size r:=af.mt HI.out hm2 (by decide)
   have k0:=hp2.q.cell 0
   have y0:=hp2.q.frozen 0
   simp at k0
   have hnlt:=hp2.q.lt
   have hp3:=hp2.store 0 (.string ⟨t.x.toArray⟩)
   simp only[Array.setIfInBounds] at hp3
   have m3:MT 0 [57] w2 (w2.setCell ⟨w.heap.size,0,none⟩ (.string ⟨t.x.toArray⟩)):=MT.setCell (MT.refl w2) hp2.q (by simp) (Fz) _
   have hi3:dD _ w1.heap.size r:=af.mt hi2 m3 (by decide)
   have hr3:=hr2.mt m3 (by decide) (by decide)
   have hbs:=mF w2 ⟨w.heap.size,0,none⟩ (.string ⟨t.x.toArray⟩) 215 #[.slice none 0 0]
   have hbk:Below (w2.setCell ⟨w.heap.size,0,none⟩ (.string ⟨t.x.toArray⟩)).heap.size (w2.setCell ⟨w.heap.size,0,none⟩ (.string ⟨t.x.toArray⟩)) ((w2.setCell ⟨w.heap.size,0,none⟩ (.string ⟨t.x.toArray⟩)).alloc (.cells #[.slice none 0 0] 215)):=ae Fy _
   have hp4:=hp3.keep hbk
   have hi4:dD _ w1.heap.size r:=af.alloc hi3 (.cells #[.slice none 0 0] 215)
   have hr4:=hr3.keep hbk
   have x0:=af.cell hi4 0
   have x0l:=af.lt hi4
   simp only[List.getElem?_toArray,List.getElem?_cons_zero] at x0
   have k2:=af.cell hi2 0
   have k2l:=af.lt hi2
   simp only[List.getElem?_toArray,List.getElem?_cons_zero] at k2
   have hne1:w.heap.size≠w1.heap.size:=by omega
   have hne2:w1.heap.size≠w.heap.size:=by omega
   have hw2:w.heap.size+3<=w2.heap.size:=hp2.s
   have hcl:=BE (B:=w.heap.size+3) (bp:=w2.heap.size) hi4 ⟨_,hbs,World.ownsRow_nil _ _ _ _⟩ hr4 hrB hp4.s hw2
   have HP4:Hid (PS w w.heap.size #[.string ⟨t.x.toArray⟩,.slice none 0 0] _):=Fx (by simpa using hp4)
   clear hp2 hi2 hr2 hm2 hp3 m3 hi3 hr3 hbs hbk hp4 hi4 hr4 HP HI HC
   unfold ak.v
   cases h1:aJ eo c1 with
   | bad a f =>
     have hq:=HQ.out
     rw[lk H0.out h1] at hq
     subst hq
     rw[h1] at hcl
     have HC:=Fx hcl
     clear h1 hcl
     go_wp2_with fail
     refine HC.out.mono ?_
     rintro e wx ⟨rfl,hm⟩
     have HPX:=Fx (HP4.out.mt hm)
     clear hm
     go_wp2_with fail
     exact gx HPX.out rfl rfl rfl
   | ok l c2 =>
     rw[h1] at hcl
     have HC:=Fx hcl
     have H1:=Fx h1
     have hll:=ox kx h1
     clear h1 hcl
     go_wp2_with fail
     refine HC.out.mono ?_
     rintro e w5 ⟨v5,rfl,⟨hown,hi5,hpl5,hr5⟩,hm5⟩
     obtain⟨la,lc,rfl⟩:=aB (show World.ownsRow _ _ _ _ _ _ _ from hown)
     have hLL:(l.map jj).length=l.length:=by simp
     generalize hLe:(l.map jj).length=L at *
     have HLL:=Fx hLL
     have hLb:L<=1000000:=by omega
     clear hLL
     have hp5:=HP4.out.mt hm5
     have k1:=hp5.q.cell 1
     have y1:=hp5.q.frozen 1
     simp only[FF] at k1
     have hnlt5:=hp5.q.lt
     have k5:=af.cell hi5 0
     have k5l:=af.lt hi5
     simp only[List.getElem?_toArray,List.getElem?_cons_zero] at k5
     have hp6:=hp5.store 1 (.slice la L lc)
     simp only[Array.setIfInBounds] at hp6
     have m6:MT 0 [57] w5 (w5.setCell ⟨w.heap.size,1,none⟩ (.slice la L lc)):=MT.setCell (MT.refl w5) hp5.q (by simp) (Fz) _
     have hr6:=hr5.mt m6 (by decide) (by decide)
     have htk:=cN (B:=w.heap.size+3) (Ts:=[213]) hr6 0 [] _ (eE _) hrB (by simp)
     have HPL6:=Fx (hpl5.mt m6 (by decide) (by decide))
     have HO6:=Fx (show World.ownsRow _ _ 109 2 (.slice la L lc) L ((l.map jj).flatMap bd.cells) from by
      have:=m6.ownsRow (show World.ownsRow _ _ _ _ _ _ _ from hown) (by decide)
      rw[hLe] at this
      exact this)
     have HP6:Hid (PS w w.heap.size #[.string ⟨t.x.toArray⟩,.slice la L lc] _):=Fx (by simpa using hp6)
     have hw5:w.heap.size+3<=w5.heap.size:=hp5.s
     have HW2:=Fx hw2
     have HLe:=Fx hLe
     clear hp5 hi5 hr5 hm5 hp6 m6 hr6 hpl5 hown hLe HC HP4 hw2
     cases h2:tk 0 [] c2 with
     | bad a f =>
       have hq:=HQ.out
       rw[kX H0.out H1.out h2] at hq
       subst hq
       rw[h2] at htk
       have HC:=Fx htk
       clear h2 htk
       go_wp2_with fail
       refine HC.out.mono ?_
       rintro e wx ⟨rfl,hm⟩
       have HPX:=Fx (HP6.out.mt hm)
       clear hm
       go_wp2_with fail
       exact gx (by simpa using HPX.out) rfl rfl rfl
     | ok u c3 =>
       have hq:=HQ.out
       rw[mB H0.out H1.out h2] at hq
       have HQ2:=Fx hq
       rw[h2] at htk
       have HC:=Fx htk
       clear h2 htk hq
       go_wp2_with fail
       refine HC.out.mono ?_
       rintro e w7 ⟨v7,rfl,⟨rfl,hr7⟩,hm7⟩
       have hp7:PS w w.heap.size #[.string ⟨t.x.toArray⟩,.slice la L lc] w7:=by simpa using HP6.out.mt hm7
       have ho7:=hm7.ownsRow HO6.out (by decide)
       obtain⟨pv,hpb7,hpo7⟩:=HPL6.out.mt hm7 (by decide) (by decide)
       obtain⟨pa,pc,rfl⟩:=aB (show World.ownsRow _ _ _ _ _ _ _ from hpo7)
       have hpl:(l.map (·.2.2)).length=L:=by rw[List.length_map];exact HLL.out.symm
       have HPL:=Fx hpl
       rw[hpl] at hpb7
       clear hpl
       have k1:=hp7.q.cell 1
       have p0:=hpb7.cell 0
       have p0l:=hpb7.lt
       simp only[FF] at k1 p0
       have k1l:=hp7.q.lt
       have HP7:=Fx hp7
       have HO7:=Fx ho7
       have HPB7:=Fx hpb7
       have HPO7:=Fx hpo7
       clear hp7 ho7 hpb7 hpo7 hr7 hm7 HC HPL6 HO6 HP6
       unfold ak.v
       cases h5:l[5]? with
       | some c =>
         have hq:=HQ2.out
         rw[kO h5] at hq
         subst hq
         have h5l:=(FE h5).1
         rw[<-HLL.out] at h5l
         obtain⟨pg,pcap,hv,hnc,hcm,hgl,hce⟩:=oy.get HPO7.out (i:=5) (p:=c.2.2) (by simp [h5])
         simp only[Value.slice.injEq,true_and] at hv
         obtain⟨rfl,rfl⟩:=hv
         rw[HPL.out] at hnc
         have hd:(5:Int)<(L:Int):=by omega
         have hd2:¬ ((L:Int)<=5):=by omega
         clear h5
         go_wp2_with fail
         exact gx HP7.out rfl rfl rfl
       | none =>
         have h5l:=List.getElem?_eq_none_iff.1 h5
         rw[<-HLL.out] at h5l
         have hd:¬ ((5:Int)<(L:Int)):=by omega
         have hd2:(L:Int)<=5:=by omega
         have hag:=pI w7 (.slice la L lc) (l.map jj) (bV.at (B:=0) (by
          show World.ownsRow _ _ _ _ _ _ _
          rw[HLe.out]
          exact World.ownsRow.low HO7.out (Fz)) (by rw[HLe.out];omega))
         have HAG:=Fx hag
         have H5:=Fx h5
         clear hag h5
         rcases fK (l.map jj) [] 0 with h6 | ⟨j,h6,_,h7⟩
         ·have hai:dE (l.map jj) = -1:=h6
          have hq:=HQ2.out
          rw[mI H5.out hai] at hq
          subst hq
          have hag:=HAG.out
          rw[hai] at hag
          have HA:=Fx hag
          clear hag h6 hai HAG
          go_wp2_with fail
          refine HA.out.mono ?_
          rintro e w8 ⟨rfl,hb8⟩
          have hp8:=HP7.out.keep hb8
          have z0:=hp8.q.cell 0
          have z1:=hp8.q.cell 1
          have z3:=hp8.a.cell 0
          have z4:=hp8.e.cell 0
          simp only[FF] at z0 z1 z3 z4
          have u0:=hp8.q.frozen 0
          have u1:=hp8.q.frozen 1
          have u3:=hp8.a.frozen 0
          have u4:=hp8.e.frozen 0
          have hnl14:=hp8.q.lt
          have hna14:=hp8.a.lt
          have hne14:=hp8.e.lt
          obtain⟨hfin,mfin⟩:=hp8.fin
          have mall:=(MT.ofBelow (B:=0) (Ts:=[57,3,29]) hb8).trans mfin
          have hpost:kz w (.ok (kG t.x l) []) (.returned (.tuple #[.agg #[.string ⟨t.x.toArray⟩,.slice la L lc],.int .i64 0,.int .i64 0])) _ :=
           ⟨_,rfl,by
            show World.ownsRow _ _ _ _ _ (l.map jj).length _
            rw[HLe.out]
            exact World.ownsRow.low (mall.ownsRow HO7.out (by decide)) (by have:=HW2.out;omega),hfin.b⟩
          have HFIN:=Fx hfin
          have HPOST:=Fx hpost
          clear hb8 hp8 hfin mfin mall hpost
          go_wp2_with fail
          exact Ch HFIN.out rfl rfl rfl rfl rfl HPOST.out
         ·have hai:dE (l.map jj)=(j:Int):=h6
          have hjl:j<L:=by simp only[Nat.zero_add] at h7;rw[HLe.out] at h7;exact h7
          obtain⟨c,hc⟩:∃ c,l[j]? = some c:=⟨l[j]'(by rw[<-HLL.out];exact hjl),FD (by rw[<-HLL.out];exact hjl)⟩
          have hq:=HQ2.out
          rw[jz H5.out hai hc] at hq
          subst hq
          have hag:=HAG.out
          rw[hai] at hag
          have HA:=Fx hag
          have HCC:=Fx hc
          have hd4:decide ((0:Int)<=(j:Int))=true:=by simp
          have hd5:decide ((j:Int)<0)=false:=by simp
          have hd6:decide ((L:Int)<=(j:Int))=false:=by simp;omega
          clear hag h6 h7 hai hc HAG
          go_wp2_with fail
          refine HA.out.mono ?_
          rintro e w8 ⟨rfl,hb8⟩
          have hpo8:=(MT.ofBelow (B:=0) (Ts:=[]) hb8).ownsRow (show World.ownsRow _ _ _ _ _ _ _ from HPO7.out) (by simp)
          obtain⟨pg,pcap,hv,hnc,hcm,hgl,hce⟩:=oy.get (show oy _ _ _ (l.map (·.2.2)) from hpo8) (i:=j) (p:=c.2.2) (by simp [HCC.out])
          simp only[Value.slice.injEq,true_and] at hv
          obtain⟨rfl,rfl⟩:=hv
          have hpb8:=HPB7.out.below hb8 HPB7.out.lt
          have p0:=hpb8.cell 0
          have p0l:=hpb8.lt
          simp only[List.getElem?_toArray,List.getElem?_cons_zero] at p0
          rw[HPL.out] at hnc
          have HP8:=Fx (HP7.out.keep hb8)
          clear hb8 hpo8 hpb8
          go_wp2_with fail
          exact gx HP8.out rfl rfl rfl
