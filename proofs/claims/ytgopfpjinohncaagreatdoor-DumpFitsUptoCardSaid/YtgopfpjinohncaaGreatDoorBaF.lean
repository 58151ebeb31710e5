/- change.Parse's deferred closure, walked; its named results; its doors. -/
import Derived.Test.YtgopfpjinohncaaGreatDoorJyF
set_option maxHeartbeats 16000000
set_option maxRecDepth 100000
set_option linter.unusedVariables false
namespace Go.Proofs.YtgopfpjinohncaaGreatDoor
open Go.Proofs.Tryz
open Go.RowKit
theorem vv (p q r:Addr) (w:World) :
 CallsD prog 142 #[.pointer (some p),.pointer (some q),.pointer (some r)] .returning w fun e u' w'=>e=.returned (.tuple #[])/\u'=.returning/\w'=w:=by
 have hc:=gD p q w
 refine callsD_of_wpS func142 rfl fun c₀ cs hu=>?_
 apply wpS_seq
 apply wpS_region
 simp [wpOpsS,go_sem,recoverD,hu,ntmps142,Exit.thenS]
 refine hc.mono ?_
 rintro e w1 ⟨rfl,rfl⟩
 refine wpS_cond (t:=false) (by simp [Act.eval,Array.replicate]) ?_
 simp only[Bool.false_eq_true,if_false]
 refine wpS_of_wp (wp_skip ?_)
 cases c₀
 simp_all [bodyPostS,results,results142]
theorem rt (a e:Int) (pa pe pr:Nat) (x y n:Value) (older:List PanicEntry) (w:World) (ha:w.cell? ⟨pa,0,none⟩=some x) (he:w.cell? ⟨pe,0,none⟩=some y) (hn:w.cell? ⟨pr,0,none⟩=some n)
 (fa:w.frozen? ⟨pa,0,none⟩=false) (fe:w.frozen? ⟨pe,0,none⟩=false) (fn:w.frozen? ⟨pr,0,none⟩=false) (h1:pa≠pe) (h2:pa≠pr) (h3:pe≠pr) :
 CallsD prog 142 #[.pointer (some ⟨pa,0,none⟩),.pointer (some ⟨pe,0,none⟩),.pointer (some ⟨pr,0,none⟩)] (.panicking ({ v:=aP a e,recovered:=false }::older)) w fun x u' w' =>
  x=.returned (.tuple #[])/\u'=.panicking ({ v:=aP a e,recovered:=true }::older) /\
  w'=((((w.setCell ⟨pa,0,none⟩ (.int .i64 a)).setCell ⟨pe,0,none⟩ (.int .i64 e)).alloc (.cells #[.int .i64 a,.int .i64 e] 126)).setCell ⟨pr,0,none⟩ (.slice none 0 0)).drew:=by
 have hcf:=eL a e pa pe x y w ha he fa fe h1
 have HCF:=Fx hcf
 clear hcf
 have hrl:=World.block_lt_of_cell? w _ hn
 simp at hrl
 have h2':pr≠pa:=fun q=>h2 q.symm
 have h3':pr≠pe:=fun q=>h3 q.symm
 have hm:aq (fun k=>k=pa∨k=pe) w (((w.setCell ⟨pa,0,none⟩ (.int .i64 a)).setCell ⟨pe,0,none⟩ (.int .i64 e)).alloc (.cells #[.int .i64 a,.int .i64 e] 126)) :=
  (((aq.refl _ w).setCell (p:=⟨pa,0,none⟩) (fun _=>.inl rfl) _).setCell (p:=⟨pe,0,none⟩) (fun _=>.inr rfl) _).alloc _
 have hno:¬ (pr=pa∨pr=pe):=fun q=>q.elim h2' h3'
 have k0:=(hm.cell (p:=⟨pr,0,none⟩) hrl hno).trans hn
 have y0:=(hm.frozen (p:=⟨pr,0,none⟩) hrl hno).trans fn
 clear hm hno ha he hn fa fe fn
 refine callsD_of_wpS func142 rfl fun c₀ cs hu=>?_
 apply wpS_seq
 apply wpS_region
 simp [wpOpsS,go_sem,recoverD,hu,ntmps142,Exit.thenS]
 refine HCF.out.mono ?_
 rintro e' w1 ⟨rfl,rfl⟩
 refine wpS_cond (t:=true) (by simp [Act.eval,Array.replicate]) ?_
 simp only[if_true]
 apply wpS_region
 simp [wpOpsS,go_sem,k0,y0,bodyPostS,results,results142]
structure PB (w0:World) (n:Nat) (bv:Value) (w:World):Prop where
 q:af w n 53 #[bv]
 a:af w (n+1) 3 #[.int .i64 0]
 e:af w (n+1+1) 29 #[.int .i64 0]
 b:Below n w0 w
 s:n+3<=w.heap.size
section
variable {w0 w w' : World} {n : Nat} {bv bv' : Value}
theorem PB.below (h:PB w0 n bv w) (hb:Below (n+3) w w'):PB w0 n bv w' :=
 ⟨h.q.below hb (by omega),h.a.below hb (by omega),h.e.below hb (by omega),h.b.trans (hb.mono (by omega)),Nat.le_trans h.s hb.size⟩
theorem PB.mt {Ts:List TypeId} (h:PB w0 n bv w) (hm:MT (n+3) Ts w w'):PB w0 n bv w':=h.below (hm.below h.s)
theorem PB.keep (h:PB w0 n bv w) (hb:Below w.heap.size w w'):PB w0 n bv w':=h.below (hb.mono h.s)
theorem PB.mod {F:Nat->Prop} (h:PB w0 n bv w) (hm:aq F w w') (hF:∀ k,F k->k=n∨n+3<=k) (hq:af w' n 53 #[bv']):PB w0 n bv' w' :=
 ⟨hq,h.a.mod hm (fun f=>by have:=hF _ f;omega),h.e.mod hm (fun f=>by have:=hF _ f;omega),h.b.trans (hm.below (by have:=h.s;omega) (fun i f=>by have:=hF _ f;omega)),Nat.le_trans h.s hm.size⟩
end
theorem sj (a e:Int) {w0 w:World} {n:Nat} {x:Value} (h:PB w0 n x w) :
 CallsD prog 142 #[.pointer (some ⟨n+1,0,none⟩),.pointer (some ⟨n+1+1,0,none⟩),.pointer (some ⟨n,0,none⟩)] (.panicking [{ v:=aP a e,recovered:=false }]) w fun x u' w' =>
  x=.returned (.tuple #[])/\u'=.panicking [{ v:=aP a e,recovered:=true }] /\
  w'.cell? ⟨n,0,none⟩=some (.slice none 0 0)/\w'.cell? ⟨n+1,0,none⟩=some (.int .i64 a)/\w'.cell? ⟨n+1+1,0,none⟩=some (.int .i64 e)/\Below n w0 w':=by
 have hs:=h.s
 refine (rt a e (n+1) (n+1+1) n _ _ _ [] w (h.a.cell 0) (h.e.cell 0) (h.q.cell 0) (h.a.frozen 0) (h.e.frozen 0) (h.q.frozen 0) (by omega) (by omega) (by omega)).mono ?_
 rintro e' u' w' ⟨rfl,rfl,rfl⟩
 have q1:=(((h.q.far (p:=⟨n+1,0,none⟩) (by intro q;simp only at q;omega) (.int .i64 a)).far (p:=⟨n+1+1,0,none⟩) (by intro q;simp only at q;omega) (.int .i64 e)).alloc (.cells #[.int .i64 a,.int .i64 e] 126)).set_ 0 (.slice none 0 0)
 have a1:=(((h.a.set_ 0 (.int .i64 a)).far (p:=⟨n+1+1,0,none⟩) (by intro q;simp only at q;omega) (.int .i64 e)).alloc (.cells #[.int .i64 a,.int .i64 e] 126)).far (p:=⟨n,0,none⟩) (by intro q;simp only at q;omega) (.slice none 0 0)
 have e1:=(((h.e.far (p:=⟨n+1,0,none⟩) (by intro q;simp only at q;omega) (.int .i64 a)).set_ 0 (.int .i64 e)).alloc (.cells #[.int .i64 a,.int .i64 e] 126)).far (p:=⟨n,0,none⟩) (by intro q;simp only at q;omega) (.slice none 0 0)
 refine⟨rfl,rfl,q1.cell 0,a1.cell 0,e1.cell 0,?_⟩
 have b1:=(((h.b.setCell (p:=⟨n+1,0,none⟩) (by simp only;omega) (.int .i64 a)).setCell (p:=⟨n+1+1,0,none⟩) (by simp only;omega) (.int .i64 e)).alloc (by simp [World.setCell];omega) (.cells #[.int .i64 a,.int .i64 e] 126))
 exact ay (b1.setCell FA _)
def kr (w:World):PR (List eP)->Ending->World->Prop
 | .bad a f,e,w'=>e=.returned (.tuple #[.slice none 0 0,.int .i64 a,.int .i64 f])/\Below w.heap.size w w'
 | .ok q _,e,w'=>∃ bv,e=.returned (.tuple #[bv,.int .i64 0,.int .i64 0])/\cK w.heap.size w' bv q/\Below w.heap.size w w'
theorem PB.start (w:World):PB w w.heap.size (.slice none 0 0) (((w.alloc (.cells #[.slice none 0 0] 53)).alloc (.cells #[.int .i64 0] 3)).alloc (.cells #[.int .i64 0] 29)):=by
 refine⟨((af.new w _ _).alloc _).alloc _,?_,?_,ae (ae (ae Fy _) _) _,by simp⟩
 ·have:=(af.new (w.alloc (.cells #[.slice none 0 0] 53)) 3 #[.int .i64 0]).alloc (.cells #[.int .i64 0] 29)
  simpa using this
 ·have:=af.new ((w.alloc (.cells #[.slice none 0 0] 53)).alloc (.cells #[.int .i64 0] 3)) 29 #[.int .i64 0]
  simpa using this
theorem gF {w0 w1:World} {a f:Int} {x:Value} {T:Array Value} (h:PB w0 w0.heap.size x w1) (h2:T[2]?.getD undef=.pointer (some ⟨w0.heap.size,0,none⟩)) (h3:T[3]?.getD undef=.pointer (some ⟨w0.heap.size+1,0,none⟩)) (h4:T[4]?.getD undef=.pointer (some ⟨w0.heap.size+1+1,0,none⟩)) :
 bodyPostD prog Tryz.f63 (kr w0 (.bad a f)) (Exit.panic [{ v:=aP a f,recovered:=false }])
  { tmps:=T,defers:=[{ target:=Target.fn (Fn.func 142) #[.pointer (some ⟨w0.heap.size+1,0,none⟩),.pointer (some ⟨w0.heap.size+1+1,0,none⟩),.pointer (some ⟨w0.heap.size,0,none⟩)],args:=#[] }] } w1:=by
 refine leaves_cons (f:=142) (args:=#[.pointer (some ⟨w0.heap.size+1,0,none⟩),.pointer (some ⟨w0.heap.size+1+1,0,none⟩),.pointer (some ⟨w0.heap.size,0,none⟩)]) (by simp) (by simp [go_sem]) ?_
 refine (sj a f h).mono ?_
 rintro e u' w2 ⟨rfl,rfl,c0,c3,c4,hb⟩
 have HB:=Fx hb
 clear hb h
 simp [Leaves,settle,results,results63,go_sem,h2,h3,h4,c0,c3,c4]
 exact⟨rfl,HB.out⟩
theorem PB.fin {w0 w:World} {n:Nat} {x:Value} (h:PB w0 n x w) :
 PB w0 n x (((w.setCell ⟨n,0,none⟩ x).setCell ⟨n+1,0,none⟩ (.int .i64 0)).setCell ⟨n+1+1,0,none⟩ (.int .i64 0)) /\
 MT 0 [53,3,29] w (((w.setCell ⟨n,0,none⟩ x).setCell ⟨n+1,0,none⟩ (.int .i64 0)).setCell ⟨n+1+1,0,none⟩ (.int .i64 0)):=by
 have q1:=h.q.set_ 0 x
 have a1:=h.a.far (p:=⟨n,0,none⟩) (by intro q;simp only at q;omega) x
 have e1:=h.e.far (p:=⟨n,0,none⟩) (by intro q;simp only at q;omega) x
 have a4:=a1.set_ 0 (.int .i64 0)
 have q4:=q1.far (p:=⟨n+1,0,none⟩) (by intro q;simp only at q;omega) (.int .i64 0)
 have e4:=e1.far (p:=⟨n+1,0,none⟩) (by intro q;simp only at q;omega) (.int .i64 0)
 have e5:=e4.set_ 0 (.int .i64 0)
 have q5:=q4.far (p:=⟨n+1+1,0,none⟩) (by intro q;simp only at q;omega) (.int .i64 0)
 have a5:=a4.far (p:=⟨n+1+1,0,none⟩) (by intro q;simp only at q;omega) (.int .i64 0)
 simp only[Array.setIfInBounds] at q5 a5 e5
 refine⟨⟨by simpa using q5,by simpa using a5,by simpa using e5,((h.b.setCell (p:=⟨n,0,none⟩) FA x).setCell (by simp only;omega) _).setCell (by simp only;omega) _,by simpa [World.setCell] using h.s⟩,?_⟩
 have m1:MT 0 [53,3,29] w _:=MT.setCell (i:=0) (MT.refl w) h.q (by simp) (Fz) x
 have m4:=MT.setCell (i:=0) m1 a1 (by simp) (Fz) (.int .i64 0)
 exact MT.setCell (i:=0) m4 e4 (by simp) (Fz) (.int .i64 0)
theorem vV {w0 w1:World} {x:Value} {T:Array Value} {Post:Ending->World->Prop} (h:PB w0 w0.heap.size x w1) (h2:T[2]?.getD undef=.pointer (some ⟨w0.heap.size,0,none⟩)) (h3:T[3]?.getD undef=.pointer (some ⟨w0.heap.size+1,0,none⟩)) (h4:T[4]?.getD undef=.pointer (some ⟨w0.heap.size+1+1,0,none⟩))
 (hx:x.oneCell'=true) (hp:Post (.returned (.tuple #[x,.int .i64 0,.int .i64 0])) w1) :
 bodyPostD prog Tryz.f63 Post Exit.ret
  { tmps:=T,defers:=[{ target:=Target.fn (Fn.func 142) #[.pointer (some ⟨w0.heap.size+1,0,none⟩),.pointer (some ⟨w0.heap.size+1+1,0,none⟩),.pointer (some ⟨w0.heap.size,0,none⟩)],args:=#[] }] } w1:=by
 have c0:=h.q.cell 0
 have c3:=h.a.cell 0
 have c4:=h.e.cell 0
 simp only[List.getElem?_toArray,List.getElem?_cons_zero] at c0 c3 c4
 have HP:=Fx hp
 clear hp h
 refine leaves_cons (f:=142) (args:=#[.pointer (some ⟨w0.heap.size+1,0,none⟩),.pointer (some ⟨w0.heap.size+1+1,0,none⟩),.pointer (some ⟨w0.heap.size,0,none⟩)]) (by simp) (by simp [go_sem]) ?_
 refine (vv _ _ _ _).mono ?_
 rintro e u' w2 ⟨rfl,rfl,rfl⟩
 simp [Leaves,settle,results,results63,go_sem,h2,h3,h4,c0,c3,c4]
 exact HP.out
theorem xS (s:ByteArray) (w:World) (a f:Int) (hop:∀ W,Below w.heap.size w W->Calls prog 54 #[.string s] W fun e w'=>e=.panicked [{ v:=aP a f,recovered:=false }]/\Below W.heap.size W w') :
 Calls prog 63 #[.string s] w (kr w (.bad a f)):=by
 have hmf:∀ (fn:Fn) (first cap:Array Value) (w:World),(Instr.makeFunc fn first cap).run prog w=.ok (.func fn first cap) w:=fun _ _ _ _=>rfl
 have hps:=PB.start w
 have ho:=hop _ hps.b
 have HPS:=Fx hps
 have HO:=Fx ho
 clear hps ho hop
 go_enter_defers func63,ntmps63
 go_wp2_with fail
 refine HO.out.mono ?_
 rintro e w1 ⟨rfl,hb⟩
 have hp:=HPS.out.keep hb
 have HP:=Fx hp
 clear hb hp
 go_wp2_with fail
 exact gF HP.out rfl rfl rfl
theorem Tryz.info_Val:(prog.info? 111).map (fun i=>(i.zero,i.size,i.bytes))=some (some (.agg #[.int .i64 0,.int .i64 0,.string ⟨#[]⟩]),3,32):=by kernel_rfl
theorem AW {α:Type} (P:List ak->PR α) (El:World->List Value->α->Prop) (J:World->List α->Prop) (B:Nat) (Ts:List TypeId) (r:Nat) (vt:Value) (lb:Array Value)
 (hP:dp P) (hB:B<=r) (hR:213∈Ts) (hT:111 ∉ Ts)
 (hJ:∀ (w w':World) (xs:List α),MT B [111,213] w w'->J w xs->J w' xs)
 (hE:∀ (w w':World) (cs:List Value) (x:α),MT B (111::Ts) w w'->El w cs x->El w' cs x)
 (hone:∀ (w:World) (xs:List α) (c:List ak),B<=w.heap.size->J w xs->Rs w r c vt->Calls prog 144 lb w (aX (fun x c' v w'=>lx 3 El J r vt xs x c' v w') B Ts w (P c)))
 (w:World) (c:List ak) (hc:Rs w r c vt) (hj:J w []) (hw:B<=w.heap.size) :
 Calls prog 147 #[.pointer (some ⟨r,0,none⟩),.func (.func 144) #[] lb] w (aX (fun xs c' v w'=>jW w.heap.size 111 3 El J r vt xs c' v w') B Ts w (aQ P c)):=by
 obtain⟨i0,hi0,hz0,hz1,hz2⟩:=info_parts Tryz.info_Val
 have hlen:=hc.len
 have HONE:=Fx hone
 have HJ:=Fx hJ
 have HE:=Fx hE
 have hone0:=hone w [] c hw hj hc
 have hTR:111 ∉ [213]:=by decide
 clear hone hJ hE hj hc
 cases hp:P c with
 | bad a e =>
   rw[hp] at hone0
   rw[er hp]
   have HO:=Fx hone0
   clear hp hone0
   go_enter func147,ntmps147
   go_wp2_with fail
   refine HO.out.mono ?_
   rintro e' w1 ⟨rfl,hm⟩
   have HM:=Fx hm
   clear hm
   go_wp2_with fail
   exact⟨rfl,az HM.out⟩
 | ok x c1 =>
   rw[hp] at hone0
   rw[ek hp]
   have HO:=Fx hone0
   have hl1:=hP _ _ _ hp
   clear hp hone0
   have HRES:Hid (bz P [x] c1=bz P [x] c1):=Fx rfl
   generalize hres:bz P [x] c1=RES at HRES ⊢
   clear HRES
   have HRS:=Fx hres
   clear hres
   go_enter func147,ntmps147
   go_wp2_with fail
   refine HO.out.mono ?_
   rintro e' w1 ⟨v,rfl,⟨cs,rfl,⟨hl,h1,he⟩,hj1,hr1⟩,hm⟩
   obtain⟨e0,e1,e2,rfl⟩:=te hl
   have hsz1:=hm.size
   have hal:MT B [111,213] w1 (w1.alloc (.cells #[e0,e1,e2] 111)):=(MT.refl w1).alloc _
   have HJ1:=Fx (HJ.out _ _ _ hal hj1)
   have HM1:=Fx (hm.alloc (.cells #[e0,e1,e2] 111))
   have HE1:=Fx (show jE 3 El (w1.alloc (.cells #[e0,e1,e2] 111)) [e0,e1,e2] x from ⟨hl,h1,HE.out _ _ _ _ ((MT.refl w1).alloc _) he⟩)
   have HR1:=Fx (hr1.keep (ae Fy (.cells #[e0,e1,e2] 111)))
   have HO1:=Fx (World.ownsRow_lit (base:=w.heap.size) (e:=111) (size:=3) w1 #[e0,e1,e2] 1 hsz1 (by unfold maxLen;omega) rfl)
   clear hl h1 he hj1 hr1 hm hal HO
   go_wp2_with fail
   go_loopw [5] (fun v wr=>∃ (ys:List α) (css:List (List Value)) (cc:List ak) (ad:Option Addr) (cap:Nat),v=.slice ad ys.length cap/\Hid (wr.ownsRow w.heap.size 111 3 (.slice ad ys.length cap) ys.length css.flatten)/\Hid (aH (jE 3 El wr) css ys)/\Hid (J wr ys)/\Hid (Rs wr r cc vt)/\Hid (MT B Ts w wr)/\Hid (bz P ys cc=RES)/\ys.length+cc.length<=200000) (fun v _=>200000 - (match v with | .slice _ n _=>n | _=>0))
   case atStart=>exact⟨[x],[[e0,e1,e2]],c1,some ⟨w1.heap.size,0,none⟩,1,rfl,HO1,Fx ⟨HE1.out,trivial⟩,HJ1,HR1,HM1,HRS,by simp;omega⟩
   case round =>
    obtain⟨ys,css,cc,ad,cap,rfl,OW,AL,JW,RW,MW,RE,hbd⟩:=hrel
    have HIS:=Fx (dh RW.out [44])
    cases him:cV [44] cc with
    | false =>
      have hre:=RE.out
      rw[cY ys him] at hre
      rw[him] at HIS
      subst hre
      clear him
      go_wp2_with fail
      refine HIS.out.mono ?_
      rintro e2 w2 ⟨rfl,hb2⟩
      have HB2:=Fx hb2
      clear hb2
      go_wp2_with fail
      go_ret
      refine⟨_,rfl,⟨css,(aq.ofBelow (F:=fun _=>False) HB2.out).ownsRow OW.out (fun _ _ f=>f),AL.out.mono (fun b a h=>⟨h.1,h.2.1,HE.out _ _ _ _ (MT.ofBelow HB2.out) h.2.2⟩),HJ.out _ _ _ (MT.ofBelow HB2.out) JW.out,RW.out.keep HB2.out⟩,MW.out.plusBelow HB2.out⟩
    | true =>
      obtain⟨t,htk⟩:=fw him
      have hne:1<=cc.length:=by
       cases cc with
       | nil=>simp [cV] at him
       | cons _ _=>simp
      have hdl:(cc.drop 1).length=cc.length - 1:=List.length_drop ..
      rw[him] at HIS
      have HIM:=Fx him
      have HTK:=Fx htk
      clear him htk
      go_wp2_with fail
      refine HIS.out.mono ?_
      rintro e2 w2 ⟨rfl,hb2⟩
      have HMK:=Fx (bf (B:=B) (Ts:=[213]) (RW.out.keep hb2) [44] hB (by simp))
      rw[HTK.out] at HMK
      have HB2:=Fx hb2
      clear hb2
      go_wp2_with fail
      refine HMK.out.mono ?_
      rintro e3 w3 ⟨v3,rfl,⟨rfl,hr3⟩,hm3⟩
      have m03:MT B [213] wr w3:=(MT.ofBelow HB2.out).trans hm3
      have hB3:B<=w3.heap.size:=by have:=MW.out.size;have:=m03.size;omega
      have hone3:=HONE.out w3 ys (cc.drop 1) hB3 (HJ.out _ _ _ (m03.wide (by simp)) JW.out) hr3
      have M03:=Fx m03
      have toTs:∀ t∈[213],t∈Ts:=fun t ht=>by simp at ht;subst ht;exact hR
      have TOTS:=Fx toTs
      clear hr3 hm3 m03 toTs
      unfold ak.v
      cases hp:P (cc.drop 1) with
      | bad a e =>
        rw[hp] at hone3
        have hre:=RE.out
        rw[ea ys HIM.out hp] at hre
        subst hre
        have HO3:=Fx hone3
        clear hp hone3
        go_wp2_with fail
        refine HO3.out.mono ?_
        rintro e4 w4 ⟨rfl,hm4⟩
        have HM4:=Fx hm4
        clear hm4
        go_wp2_with fail
        exact⟨rfl,az ((MW.out.trans (M03.out.wide TOTS.out)).trans HM4.out)⟩
      | ok x c4 =>
        rw[hp] at hone3
        have hre:=dQ hP ys HIM.out hp
        have hl4:=hP _ _ _ hp
        have hrq:=hre.1
        rw[RE.out] at hrq
        have HRE:=Fx hrq.symm
        have HO3:=Fx hone3
        clear hp hone3 hre hrq
        go_wp2_with fail
        refine HO3.out.mono ?_
        rintro e4 w4 ⟨v4,rfl,⟨cs4,rfl,⟨hl,h1,he⟩,hj4,hr4⟩,hm4⟩
        obtain⟨e0,e1,e2,rfl⟩:=te hl
        have m04:MT B Ts wr w4:=(M03.out.wide TOTS.out).trans hm4
        have HO4:=Fx (m04.ownsRow OW.out hT)
        have HW4:=Fx (MW.out.trans m04)
        have hsz4:=HW4.out.size
        have M04:=Fx m04
        have H1:=Fx h1
        have HEL:=Fx he
        have HJ4:=Fx hj4
        have HR4:=Fx hr4
        clear hl h1 he hj4 hr4 hm4 m04
        go_wp2_with (at_builtin;refine wpList_append_lies _ rfl (.tmp 13) (.tmp 16) 58 rfl w.heap.size 111 i0 (.agg #[.int .i64 0,.int .i64 0,.string ⟨#[]⟩]) 3 32 underlying58 hi0 hz0 hz1 hz2 rfl (by decide) (.slice ad ys.length cap) ys.length _ rfl (HO4.out.alloc _) ⟨_,0,none⟩ 1 1 [e0,e1,e2] rfl rfl (World.news_of_block (af.new _ _ _)) H1.out (by decide) ?c3 ?c5 ?c4 _ rfl ?_)
        case c3=>unfold maxLen;omega
        case c5=>omega
        case c4=>simp;omega
        intro g cap1 w5 hown2 hgrow2 hat2 hlt2
        have m45:MT B [111] w4 w5:=((MT.refl w4).alloc _).grown hgrow2 (HO4.out.alloc _) (by simp) hw
        have mall:MT B (111::Ts) wr w5:=(M04.out.wide (fun _ h=>List.mem_cons_of_mem _ h)).trans (m45.wide (by simp))
        have HO5:=Fx hown2
        have MALL:=Fx mall
        have M45:=Fx m45
        have HG:=Fx hgrow2
        clear hown2 hgrow2 hat2 hlt2 m45 mall
        go_wp2_with fail
        go_roundw
        case rel =>
         refine⟨ys++[x],css++[[e0,e1,e2]],c4,some ⟨g,0,none⟩,cap1,by simp,Fx ?_,Fx ?_,Fx (HJ.out _ _ _ (M45.out.wide (by simp)) HJ4.out),Fx (HR4.out.mt M45.out (by decide) (by decide)),Fx ?_,HRE,by simp;omega⟩
         ·have:=HO5.out
          simpa [List.flatten_append] using this
         ·exact (AL.out.mono (fun b a h=>⟨h.1,h.2.1,HE.out _ _ _ _ MALL.out h.2.2⟩)).snoc ⟨rfl,H1.out,HE.out _ _ _ _ (M45.out.wide (by simp)) HEL.out⟩
         ·exact aq.grown (HW4.out.alloc _) HG.out (fun k hk hlt=>by have:=(HO4.out.lt k hk).1;omega)
        case measure=>simp;omega
theorem Ax {α:Type} (P:List ak->PR α) (El:World->List Value->α->Prop) (J:World->List α->Prop) (B:Nat) (Ts:List TypeId) (r:Nat) (vt:Value) (lb:Array Value)
 (hP:dp P) (hB:B<=r) (hR:213∈Ts) (hT:111 ∉ Ts)
 (hJ:∀ (w w':World) (xs:List α),MT B [111,213] w w'->J w xs->J w' xs)
 (hE:∀ (w w':World) (cs:List Value) (x:α),MT B (111::Ts) w w'->El w cs x->El w' cs x)
 (hone:∀ (w:World) (xs:List α) (c:List ak),B<=w.heap.size->J w xs->Rs w r c vt->Calls prog 144 lb w (aX (fun x c' v w'=>lx 3 El J r vt xs x c' v w') B Ts w (P c)))
 (w:World) (c:List ak) (hc:Rs w r c vt) (hj:J w []) (hw:B<=w.heap.size) :
 Calls prog 66 #[.pointer (some ⟨r,0,none⟩),.func (.func 144) #[] lb] w (aX (fun xs c' v w'=>jW w.heap.size 111 3 El J r vt xs c' v w') B Ts w (aJ P c)):=by
 have HSOME:=Fx (fun W C=>AW P El J B Ts r vt lb hP hB hR hT hJ hE hone W C)
 have HJ:=Fx hJ
 have HE:=Fx hE
 have hmk:=bf (B:=B) (Ts:=[213]) hc [40] hB (by simp)
 have HJW:=Fx hj
 have toTs:∀ t∈[213],t∈Ts:=fun t ht=>by simp at ht;subst ht;exact hR
 have TOTS:=Fx toTs
 clear hone hJ hE hj hc toTs
 cases h0:tk 3 [[40]] c with
 | bad a e =>
   rw[h0] at hmk
   rw[iX h0]
   have HMK:=Fx hmk
   clear hmk h0
   go_enter func66,ntmps66
   go_wp2_with fail
   refine HMK.out.mono ?_
   rintro e1 w1 ⟨rfl,hm⟩
   have HM:=Fx hm
   clear hm
   go_wp2_with fail
   exact⟨rfl,az (HM.out.wide TOTS.out)⟩
 | ok t c1 =>
   rw[h0] at hmk
   have H0:=Fx h0
   have HMK:=Fx hmk
   clear hmk h0
   cases him:cV [41] c1 with
   | true =>
     rw[eY H0.out him]
     obtain⟨u,hu⟩:=fw him
     have HIM:=Fx him
     have HU:=Fx hu
     clear him hu
     go_enter func66,ntmps66
     go_wp2_with fail
     refine HMK.out.mono ?_
     rintro e1 w1 ⟨v1,rfl,⟨rfl,hr1⟩,hm⟩
     have HM:=Fx hm
     have HR1:=Fx hr1
     have his:=dh hr1 [41]
     rw[HIM.out] at his
     have HIS:=Fx his
     clear hm hr1 his
     unfold ak.v
     go_wp2_with fail
     refine HIS.out.mono ?_
     rintro e2 w2 ⟨rfl,hb2⟩
     have hmk2:=bf (B:=B) (Ts:=[213]) (HR1.out.keep hb2) [41] hB (by simp)
     rw[HU.out] at hmk2
     have HMK2:=Fx hmk2
     have HB2:=Fx hb2
     clear hb2 hmk2
     go_wp2_with fail
     refine HMK2.out.mono ?_
     rintro e3 w3 ⟨v3,rfl,⟨rfl,hr3⟩,hm3⟩
     have m3:MT B [213] w w3:=(HM.out.plusBelow HB2.out).trans hm3
     have M3:=Fx m3
     have HR3:=Fx hr3
     clear hr3 hm3 m3
     unfold ak.v
     go_wp2_with fail
     go_ret
     exact⟨_,rfl,⟨[],World.ownsRow_nil _ _ _ _,trivial,HJ.out _ _ _ (M3.out.wide (by simp)) HJW.out,HR3.out⟩,M3.out.wide TOTS.out⟩
   | false =>
     have HIM:=Fx him
     clear him
     cases hs:aQ P c1 with
     | bad a e =>
       rw[iZ H0.out HIM.out hs]
       have HS:=Fx hs
       clear hs
       go_enter func66,ntmps66
       go_wp2_with fail
       refine HMK.out.mono ?_
       rintro e1 w1 ⟨v1,rfl,⟨rfl,hr1⟩,hm⟩
       have HM:=Fx hm
       have HR1:=Fx hr1
       have his:=dh hr1 [41]
       rw[HIM.out] at his
       have HIS:=Fx his
       clear hm hr1 his
       unfold ak.v
       go_wp2_with fail
       refine HIS.out.mono ?_
       rintro e2 w2 ⟨rfl,hb2⟩
       have m2:MT B [213] w w2:=HM.out.plusBelow hb2
       have hso:=HSOME.out w2 c1 (HR1.out.keep hb2) (HJ.out _ _ _ (m2.wide (by simp)) HJW.out) (by have:=m2.size;omega)
       rw[HS.out] at hso
       have HSO:=Fx hso
       have M2:=Fx m2
       clear hso m2 hb2
       go_wp2_with fail
       refine HSO.out.mono ?_
       rintro e3 w3 ⟨rfl,hm3⟩
       have HM3:=Fx hm3
       clear hm3
       go_wp2_with fail
       exact⟨rfl,az ((M2.out.wide TOTS.out).trans HM3.out)⟩
     | ok xs c2 =>
       cases h4:tk 3 [[41]] c2 with
       | bad a e =>
         rw[iO H0.out HIM.out hs h4]
         have HS:=Fx hs
         have H4:=Fx h4
         clear hs h4
         go_enter func66,ntmps66
         go_wp2_with fail
         refine HMK.out.mono ?_
         rintro e1 w1 ⟨v1,rfl,⟨rfl,hr1⟩,hm⟩
         have HM:=Fx hm
         have HR1:=Fx hr1
         have his:=dh hr1 [41]
         rw[HIM.out] at his
         have HIS:=Fx his
         clear hm hr1 his
         unfold ak.v
         go_wp2_with fail
         refine HIS.out.mono ?_
         rintro e2 w2 ⟨rfl,hb2⟩
         have m2:MT B [213] w w2:=HM.out.plusBelow hb2
         have hso:=HSOME.out w2 c1 (HR1.out.keep hb2) (HJ.out _ _ _ (m2.wide (by simp)) HJW.out) (by have:=m2.size;omega)
         rw[HS.out] at hso
         have HSO:=Fx hso
         have M2:=Fx m2
         clear hso m2 hb2
         go_wp2_with fail
         refine HSO.out.mono ?_
         rintro e3 w3 ⟨v3,rfl,⟨css,hown,hal,hj3,hr3⟩,hm3⟩
         obtain⟨ad,cap,rfl⟩:=aB hown
         have hmk3:=bf (B:=B) (Ts:=[213]) hr3 [41] hB (by simp)
         rw[H4.out] at hmk3
         have hl2:=M2.out.size
         have HOWN:=Fx (World.ownsRow.low hown hl2)
         have HAL:=Fx hal
         have HJ3:=Fx hj3
         have HM3:=Fx ((M2.out.wide TOTS.out).trans hm3)
         have HMK3:=Fx hmk3
         clear hown hal hj3 hm3 hr3 hmk3
         go_wp2_with fail
         refine HMK3.out.mono ?_
         rintro e4 w4 ⟨rfl,hm4⟩
         have HM4:=Fx hm4
         clear hm4
         go_wp2_with fail
         exact⟨rfl,az (HM3.out.trans (HM4.out.wide TOTS.out))⟩
       | ok u c3 =>
         rw[iL H0.out HIM.out hs h4]
         have HS:=Fx hs
         have H4:=Fx h4
         clear hs h4
         go_enter func66,ntmps66
         go_wp2_with fail
         refine HMK.out.mono ?_
         rintro e1 w1 ⟨v1,rfl,⟨rfl,hr1⟩,hm⟩
         have HM:=Fx hm
         have HR1:=Fx hr1
         have his:=dh hr1 [41]
         rw[HIM.out] at his
         have HIS:=Fx his
         clear hm hr1 his
         unfold ak.v
         go_wp2_with fail
         refine HIS.out.mono ?_
         rintro e2 w2 ⟨rfl,hb2⟩
         have m2:MT B [213] w w2:=HM.out.plusBelow hb2
         have hso:=HSOME.out w2 c1 (HR1.out.keep hb2) (HJ.out _ _ _ (m2.wide (by simp)) HJW.out) (by have:=m2.size;omega)
         rw[HS.out] at hso
         have HSO:=Fx hso
         have M2:=Fx m2
         clear hso m2 hb2
         go_wp2_with fail
         refine HSO.out.mono ?_
         rintro e3 w3 ⟨v3,rfl,⟨css,hown,hal,hj3,hr3⟩,hm3⟩
         obtain⟨ad,cap,rfl⟩:=aB hown
         have hmk3:=bf (B:=B) (Ts:=[213]) hr3 [41] hB (by simp)
         rw[H4.out] at hmk3
         have hl2:=M2.out.size
         have HOWN:=Fx (World.ownsRow.low hown hl2)
         have HAL:=Fx hal
         have HJ3:=Fx hj3
         have HM3:=Fx ((M2.out.wide TOTS.out).trans hm3)
         have HMK3:=Fx hmk3
         clear hown hal hj3 hm3 hr3 hmk3
         go_wp2_with fail
         refine HMK3.out.mono ?_
         rintro e4 w4 ⟨v4,rfl,⟨rfl,hr4⟩,hm4⟩
         have HM4:=Fx hm4
         have HR4:=Fx hr4
         clear hm4 hr4
         unfold ak.v
         go_wp2_with fail
         go_ret
         exact⟨_,rfl,⟨css,HM4.out.ownsRow HOWN.out (by decide),HAL.out.mono (fun b a h=>⟨h.1,h.2.1,HE.out _ _ _ _ ((HM4.out.wide TOTS.out).wide (fun _ h=>List.mem_cons_of_mem _ h)) h.2.2⟩),HJ.out _ _ _ (HM4.out.wide (by simp)) HJ3.out,HR4.out⟩,HM3.out.trans (HM4.out.wide TOTS.out)⟩
def E4 (_:World) (cs:List Value) (x:Vl):Prop:=cs=x.cells
theorem vD {w:World} {b r:Nat} {c:List ak} {vt:Value} {B:Nat} {xs:List Vl} (hi:dD w b r) (h:Rs w r c vt) (hB:B<=r) (hw:B<=w.heap.size) :
 Calls prog 144 #[.pointer (some ⟨b,0,none⟩)] w (aX (fun x c' v w'=>lx 3 E4 (fun w _=>dD w b r) r vt xs x c' v w') B [213] w (iH c)):=by
 have hf2:∀ (a b c d e f:Value) (w:World),(Instr.field 122 (.agg #[a,b,c,d,e,f]) 2).run prog w=.ok (.agg #[c,d,e]) w:=fun _ _ _ _ _ _ _=>by kernel_rfl
 have hb0:Below w.heap.size w (w.alloc (.cells #[.int .i64 0,.int .i64 0,.string ⟨#[]⟩] 111)):=ae Fy _
 have htk:=cN (B:=B) (Ts:=[213]) (h.keep hb0) 2 [] _ (eE _) hB (by simp)
 have zb:=af.new w 111 #[.int .i64 0,.int .i64 0,.string ⟨#[]⟩]
 have hi0:dD (w.alloc (.cells #[.int .i64 0,.int .i64 0,.string ⟨#[]⟩] 111)) b r:=af.alloc hi _
 have x0:=af.cell hi 0
 have hbl:=af.lt hi
 simp at x0
 have HI0:=Fx hi0
 have HB0:=Fx hb0
 have ZB:=Fx zb
 clear h hb0 zb hi hi0
 cases h0:tk 2 [] c with
 | bad a e =>
   rw[h0] at htk
   rw[qt h0]
   have HTK:=Fx htk
   clear h0 htk
   go_enter func144,ntmps144
   go_wp2_with fail
   refine HTK.out.mono ?_
   rintro e w1 ⟨rfl,hm⟩
   have HM:=Fx hm
   clear hm
   go_wp2_with fail
   exact⟨rfl,az ((MT.ofBelow HB0.out).trans HM.out)⟩
 | ok t c1 =>
   rw[h0] at htk
   have HTK:=Fx htk
   rw[ur h0]
   clear htk h0
   go_enter func144,ntmps144
   go_wp2_with fail
   refine HTK.out.mono ?_
   rintro e w1 ⟨v,rfl,⟨rfl,hr1⟩,hm1⟩
   have zb1:=ZB.out.mt hm1 (by decide)
   have hi1:dD w1 b r:=af.mt HI0.out hm1 (by decide)
   have HZ1:=Fx zb1
   have HI1:=Fx hi1
   have HR1:=Fx hr1
   have HM1:=Fx ((MT.ofBelow HB0.out).trans hm1)
   clear zb1 hi1 hr1 hm1 HTK
   unfold ak.v
   go_wp2_with (refine ar rfl 111 _ _ rfl w.heap.size 111 _ _ rfl rfl HZ1.out (by kernel_rfl) rfl (by simp [Value.oneCell']) ?_)
   intro w4 hb4 hm4 hz4
   have r0:=hb4.cell 0
   have r1:=hb4.cell 1
   have r2:=hb4.cell 2
   simp only[FF] at r0 r1 r2
   have m4:MT 0 [111] w1 w4:=MT.ofMod hm4 HZ1.out (by simp) (Fz)
   have HP:Hid (aX (fun x c' v w'=>lx 3 E4 (fun w _=>dD w b r) r vt xs x c' v w') B [213] w (.ok ⟨t.vk,t.vn,t.vt⟩ c1) (.returned (.agg #[.int .i64 t.vk,.int .i64 t.vn,.string ⟨t.vt.toArray⟩])) w4) :=
    Fx ⟨_,rfl,⟨[.int .i64 t.vk,.int .i64 t.vn,.string ⟨t.vt.toArray⟩],rfl,⟨rfl,by
     intro z hz
     simp only[List.mem_cons,List.not_mem_nil,or_false] at hz
     rcases hz with rfl | rfl | rfl<;>rfl,rfl⟩,af.mt HI1.out m4 (by decide),HR1.out.mt m4 (by decide) (by decide)⟩,HM1.out.own hm4 FA⟩
   clear hb4 hm4 hz4 m4
   go_wp2_with fail
   exact bodyPost_ret (v:=.agg #[.int .i64 t.vk,.int .i64 t.vn,.string ⟨t.vt.toArray⟩]) (by simp [results,results144,go_sem, *]) rfl HP.out
theorem su {w:World}:∀ {css:List (List Value)} {xs:List Vl},aH (jE 3 E4 w) css xs->css=xs.map Vl.cells
 | [],[],_=>rfl
 | c::css,x::xs,h=>by
   rw[List.map_cons,<-su h.2]
   have h1:c=x.cells:=h.1.2.2
   rw[h1]
 | [],_::_,h=>h.elim
 | _::_,[],h=>h.elim
theorem Bk {w:World} {b r:Nat} {c:List ak} {vt:Value} {B:Nat} (hi:dD w b r) (h:Rs w r c vt) (hB:B<=r) (hw:B<=w.heap.size) :
 Calls prog 66 #[.pointer (some ⟨r,0,none⟩),.func (.func 144) #[] #[.pointer (some ⟨b,0,none⟩)]] w
  (aX (fun xs c' v w'=>w'.ownsRow w.heap.size 111 3 v xs.length (xs.map Vl.cells).flatten/\dD w' b r/\Rs w' r c' vt) B [213] w (aJ iH c)):=by
 refine (Ax iH E4 (fun w _=>dD w b r) B [213] r vt #[.pointer (some ⟨b,0,none⟩)] oe hB (by simp) (by decide) (fun w w' xs hm hj=>af.mt hj hm (by decide)) (fun _ _ _ _ _ h=>h) ?_ w c h hi hw).mono ?_
 ·intro w xs c hw hj hr
  exact vD hj hr hB hw
 ·intro e w' hp
  refine hp.mono fun xs c' v w' hh=>?_
  obtain⟨css,h1,h2,h3,h4⟩:=hh
  rw[su h2] at h1
  exact⟨h1,h3,h4⟩
