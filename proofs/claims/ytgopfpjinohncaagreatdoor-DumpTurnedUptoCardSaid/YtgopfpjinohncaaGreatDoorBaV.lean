/- change.Parse's deferred closure, walked; its named results; its doors. reader.Some, reader.List at osier/api.Value, walked (printed by lst.py). change.Parse's literals, read: the closure, the list. -/
import Derived.Test.YtgopfpjinohncaaGreatDoorGaV
import Derived.Test.YtgopfpjinohncaaGreatDoorJyV
import Derived.Test.YtgopfpjinohncaaGreatDoorGnV
import Derived.Defers
import Derived.Recover
namespace Go.Proofs.YtgopfpjinohncaaGreatDoor
open Go.RowKit
set_option linter.unusedVariables false
set_option maxHeartbeats 2000000 in
set_option maxRecDepth 100000 in
theorem batch_idle (p q r:Addr) (w:World) :
 CallsD Tryz.prog 142 #[.pointer (some p),.pointer (some q),.pointer (some r)] .returning w fun e u' w'=>e=.returned (.tuple #[])/\u'=.returning/\w'=w:=by
 have hc:=caught_nil p q w
 refine callsD_of_wpS Tryz.func142 rfl fun c₀ cs hu=>?_
 apply wpS_seq
 apply wpS_region
 simp [wpOpsS,go_sem,recoverD,hu,Tryz.ntmps142,Exit.thenS]
 refine hc.mono ?_
 rintro e w1 ⟨rfl,rfl⟩
 refine wpS_cond (t:=false) (by simp [Act.eval,Array.replicate]) ?_
 simp only[Bool.false_eq_true,if_false]
 refine wpS_of_wp (wp_skip ?_)
 cases c₀
 simp_all [bodyPostS,results,Tryz.results142]
set_option maxHeartbeats 2000000 in
set_option maxRecDepth 100000 in
theorem batch_catch0 (a e:Int) (pa pe pr:Nat) (x y n:Value) (older:List PanicEntry) (w:World) (ha:w.cell? ⟨pa,0,none⟩=some x) (he:w.cell? ⟨pe,0,none⟩=some y) (hn:w.cell? ⟨pr,0,none⟩=some n)
 (fa:w.frozen? ⟨pa,0,none⟩=false) (fe:w.frozen? ⟨pe,0,none⟩=false) (fn:w.frozen? ⟨pr,0,none⟩=false) (h1:pa≠pe) (h2:pa≠pr) (h3:pe≠pr) :
 CallsD Tryz.prog 142 #[.pointer (some ⟨pa,0,none⟩),.pointer (some ⟨pe,0,none⟩),.pointer (some ⟨pr,0,none⟩)] (.panicking ({ v:=faultV a e,recovered:=false }::older)) w fun x u' w' =>
  x=.returned (.tuple #[])/\u'=.panicking ({ v:=faultV a e,recovered:=true }::older) /\
  w'=((((w.setCell ⟨pa,0,none⟩ (.int .i64 a)).setCell ⟨pe,0,none⟩ (.int .i64 e)).alloc (.cells #[.int .i64 a,.int .i64 e] 126)).setCell ⟨pr,0,none⟩ (.slice none 0 0)).drew:=by
 have hcf:=caught_fault a e pa pe x y w ha he fa fe h1
 have HCF:=Lib.hid hcf
 clear hcf
 have hrl:=World.block_lt_of_cell? w _ hn
 simp at hrl
 have h2':pr≠pa:=fun q=>h2 q.symm
 have h3':pr≠pe:=fun q=>h3 q.symm
 have hm:Mod (fun k=>k=pa∨k=pe) w (((w.setCell ⟨pa,0,none⟩ (.int .i64 a)).setCell ⟨pe,0,none⟩ (.int .i64 e)).alloc (.cells #[.int .i64 a,.int .i64 e] 126)) :=
  (((Mod.refl _ w).setCell (p:=⟨pa,0,none⟩) (fun _=>.inl rfl) _).setCell (p:=⟨pe,0,none⟩) (fun _=>.inr rfl) _).alloc _
 have hno:¬ (pr=pa∨pr=pe):=fun q=>q.elim h2' h3'
 have k0:=(hm.cell (p:=⟨pr,0,none⟩) hrl hno).trans hn
 have y0:=(hm.frozen (p:=⟨pr,0,none⟩) hrl hno).trans fn
 clear hm hno ha he hn fa fe fn
 refine callsD_of_wpS Tryz.func142 rfl fun c₀ cs hu=>?_
 apply wpS_seq
 apply wpS_region
 simp [wpOpsS,go_sem,recoverD,hu,Tryz.ntmps142,Exit.thenS]
 refine HCF.out.mono ?_
 rintro e' w1 ⟨rfl,rfl⟩
 refine wpS_cond (t:=true) (by simp [Act.eval,Array.replicate]) ?_
 simp only[if_true]
 apply wpS_region
 simp [wpOpsS,go_sem,k0,y0,bodyPostS,results,Tryz.results142]
structure PB (w0:World) (n:Nat) (bv:Value) (w:World):Prop where
 q:Blk w n 53 #[bv]
 a:Blk w (n+1) 3 #[.int .i64 0]
 e:Blk w (n+1+1) 29 #[.int .i64 0]
 b:Below n w0 w
 s:n+3<=w.heap.size
section
variable {w0 w w' : World} {n : Nat} {bv bv' : Value}
theorem PB.below (h:PB w0 n bv w) (hb:Below (n+3) w w'):PB w0 n bv w' :=
 ⟨h.q.below hb (by omega),h.a.below hb (by omega),h.e.below hb (by omega),h.b.trans (hb.mono (by omega)),Nat.le_trans h.s hb.size⟩
theorem PB.mt {Ts:List TypeId} (h:PB w0 n bv w) (hm:MT (n+3) Ts w w'):PB w0 n bv w':=h.below (hm.below h.s)
theorem PB.keep (h:PB w0 n bv w) (hb:Below w.heap.size w w'):PB w0 n bv w':=h.below (hb.mono h.s)
theorem PB.mod {F:Nat->Prop} (h:PB w0 n bv w) (hm:Mod F w w') (hF:∀ k,F k->k=n∨n+3<=k) (hq:Blk w' n 53 #[bv']):PB w0 n bv' w' :=
 ⟨hq,h.a.mod hm (fun f=>by have:=hF _ f;omega),h.e.mod hm (fun f=>by have:=hF _ f;omega),h.b.trans (hm.below (by have:=h.s;omega) (fun i f=>by have:=hF _ f;omega)),Nat.le_trans h.s hm.size⟩
end
theorem batch_catch (a e:Int) {w0 w:World} {n:Nat} {x:Value} (h:PB w0 n x w) :
 CallsD Tryz.prog 142 #[.pointer (some ⟨n+1,0,none⟩),.pointer (some ⟨n+1+1,0,none⟩),.pointer (some ⟨n,0,none⟩)] (.panicking [{ v:=faultV a e,recovered:=false }]) w fun x u' w' =>
  x=.returned (.tuple #[])/\u'=.panicking [{ v:=faultV a e,recovered:=true }] /\
  w'.cell? ⟨n,0,none⟩=some (.slice none 0 0)/\w'.cell? ⟨n+1,0,none⟩=some (.int .i64 a)/\w'.cell? ⟨n+1+1,0,none⟩=some (.int .i64 e)/\Below n w0 w':=by
 have hs:=h.s
 refine (batch_catch0 a e (n+1) (n+1+1) n _ _ _ [] w (h.a.cell 0) (h.e.cell 0) (h.q.cell 0) (h.a.frozen 0) (h.e.frozen 0) (h.q.frozen 0) (by omega) (by omega) (by omega)).mono ?_
 rintro e' u' w' ⟨rfl,rfl,rfl⟩
 have q1:=(((h.q.far (p:=⟨n+1,0,none⟩) (by intro q;simp only at q;omega) (.int .i64 a)).far (p:=⟨n+1+1,0,none⟩) (by intro q;simp only at q;omega) (.int .i64 e)).alloc (.cells #[.int .i64 a,.int .i64 e] 126)).set_ 0 (.slice none 0 0)
 have a1:=(((h.a.set_ 0 (.int .i64 a)).far (p:=⟨n+1+1,0,none⟩) (by intro q;simp only at q;omega) (.int .i64 e)).alloc (.cells #[.int .i64 a,.int .i64 e] 126)).far (p:=⟨n,0,none⟩) (by intro q;simp only at q;omega) (.slice none 0 0)
 have e1:=(((h.e.far (p:=⟨n+1,0,none⟩) (by intro q;simp only at q;omega) (.int .i64 a)).set_ 0 (.int .i64 e)).alloc (.cells #[.int .i64 a,.int .i64 e] 126)).far (p:=⟨n,0,none⟩) (by intro q;simp only at q;omega) (.slice none 0 0)
 refine⟨rfl,rfl,q1.cell 0,a1.cell 0,e1.cell 0,?_⟩
 have b1:=(((h.b.setCell (p:=⟨n+1,0,none⟩) (by simp only;omega) (.int .i64 a)).setCell (p:=⟨n+1+1,0,none⟩) (by simp only;omega) (.int .i64 e)).alloc (by simp [World.setCell];omega) (.cells #[.int .i64 a,.int .i64 e] 126))
 exact bdrew (b1.setCell (Nat.le_refl _) _)
def BPost (w:World):PR (List Chg)->Ending->World->Prop
 | .bad a f,e,w'=>e=.returned (.tuple #[.slice none 0 0,.int .i64 a,.int .i64 f])/\Below w.heap.size w w'
 | .ok q _,e,w'=>∃ bv,e=.returned (.tuple #[bv,.int .i64 0,.int .i64 0])/\ChgsOwn w.heap.size w' bv q/\Below w.heap.size w w'
theorem PB.start (w:World):PB w w.heap.size (.slice none 0 0) (((w.alloc (.cells #[.slice none 0 0] 53)).alloc (.cells #[.int .i64 0] 3)).alloc (.cells #[.int .i64 0] 29)):=by
 refine⟨((Blk.new w _ _).alloc _).alloc _,?_,?_,balloc (balloc (balloc (Below.refl _ _) _) _) _,by simp⟩
 ·have:=(Blk.new (w.alloc (.cells #[.slice none 0 0] 53)) 3 #[.int .i64 0]).alloc (.cells #[.int .i64 0] 29)
  simpa using this
 ·have:=Blk.new ((w.alloc (.cells #[.slice none 0 0] 53)).alloc (.cells #[.int .i64 0] 3)) 29 #[.int .i64 0]
  simpa using this
set_option maxHeartbeats 1000000 in
set_option maxRecDepth 100000 in
theorem batch_door {w0 w1:World} {a f:Int} {x:Value} {T:Array Value} (h:PB w0 w0.heap.size x w1) (h2:T[2]?.getD undef=.pointer (some ⟨w0.heap.size,0,none⟩)) (h3:T[3]?.getD undef=.pointer (some ⟨w0.heap.size+1,0,none⟩)) (h4:T[4]?.getD undef=.pointer (some ⟨w0.heap.size+1+1,0,none⟩)) :
 bodyPostD Tryz.prog Tryz.f63 (BPost w0 (.bad a f)) (Exit.panic [{ v:=faultV a f,recovered:=false }])
  { tmps:=T,defers:=[{ target:=Target.fn (Fn.func 142) #[.pointer (some ⟨w0.heap.size+1,0,none⟩),.pointer (some ⟨w0.heap.size+1+1,0,none⟩),.pointer (some ⟨w0.heap.size,0,none⟩)],args:=#[] }] } w1:=by
 refine leaves_cons (f:=142) (args:=#[.pointer (some ⟨w0.heap.size+1,0,none⟩),.pointer (some ⟨w0.heap.size+1+1,0,none⟩),.pointer (some ⟨w0.heap.size,0,none⟩)]) (by simp) (by simp [go_sem]) ?_
 refine (batch_catch a f h).mono ?_
 rintro e u' w2 ⟨rfl,rfl,c0,c3,c4,hb⟩
 have HB:=Lib.hid hb
 clear hb h
 simp [Leaves,settle,results,Tryz.results63,go_sem,h2,h3,h4,c0,c3,c4]
 exact⟨rfl,HB.out⟩
theorem PB.fin {w0 w:World} {n:Nat} {x:Value} (h:PB w0 n x w) :
 PB w0 n x (((w.setCell ⟨n,0,none⟩ x).setCell ⟨n+1,0,none⟩ (.int .i64 0)).setCell ⟨n+1+1,0,none⟩ (.int .i64 0)) /\
 MT 0 [53,3,29] w (((w.setCell ⟨n,0,none⟩ x).setCell ⟨n+1,0,none⟩ (.int .i64 0)).setCell ⟨n+1+1,0,none⟩ (.int .i64 0)):=by
 have q1:=h.q.set_ 0 x
 have a1:=h.a.far (p:=⟨n,0,none⟩) (by intro q;simp only at q;omega) x
 have e1:=h.e.far (p:=⟨n,0,none⟩) (by intro q;simp only at q;omega) x
 have a4:=a1.set_ 0 (.int .i64 0)
 have q4:=q1.far (p:=⟨n+1,0,none⟩) (by intro q;simp only at q;omega) (.int .i64 0)
 have e4:=e1.far (p:=⟨n+1,0,none⟩) (by intro q;simp only at q;omega) (.int .i64 0)
 have e5:=e4.set_ 0 (.int .i64 0)
 have q5:=q4.far (p:=⟨n+1+1,0,none⟩) (by intro q;simp only at q;omega) (.int .i64 0)
 have a5:=a4.far (p:=⟨n+1+1,0,none⟩) (by intro q;simp only at q;omega) (.int .i64 0)
 simp only[Array.setIfInBounds] at q5 a5 e5
 refine⟨⟨by simpa using q5,by simpa using a5,by simpa using e5,((h.b.setCell (p:=⟨n,0,none⟩) (Nat.le_refl _) x).setCell (by simp only;omega) _).setCell (by simp only;omega) _,by simpa [World.setCell] using h.s⟩,?_⟩
 have m1:MT 0 [53,3,29] w _:=MT.setCell (i:=0) (MT.refl w) h.q (by simp) (Nat.zero_le _) x
 have m4:=MT.setCell (i:=0) m1 a1 (by simp) (Nat.zero_le _) (.int .i64 0)
 exact MT.setCell (i:=0) m4 e4 (by simp) (Nat.zero_le _) (.int .i64 0)
set_option maxHeartbeats 1000000 in
set_option maxRecDepth 100000 in
theorem batch_exit {w0 w1:World} {x:Value} {T:Array Value} {Post:Ending->World->Prop} (h:PB w0 w0.heap.size x w1) (h2:T[2]?.getD undef=.pointer (some ⟨w0.heap.size,0,none⟩)) (h3:T[3]?.getD undef=.pointer (some ⟨w0.heap.size+1,0,none⟩)) (h4:T[4]?.getD undef=.pointer (some ⟨w0.heap.size+1+1,0,none⟩))
 (hx:x.oneCell'=true) (hp:Post (.returned (.tuple #[x,.int .i64 0,.int .i64 0])) w1) :
 bodyPostD Tryz.prog Tryz.f63 Post Exit.ret
  { tmps:=T,defers:=[{ target:=Target.fn (Fn.func 142) #[.pointer (some ⟨w0.heap.size+1,0,none⟩),.pointer (some ⟨w0.heap.size+1+1,0,none⟩),.pointer (some ⟨w0.heap.size,0,none⟩)],args:=#[] }] } w1:=by
 have c0:=h.q.cell 0
 have c3:=h.a.cell 0
 have c4:=h.e.cell 0
 simp only[List.getElem?_toArray,List.getElem?_cons_zero] at c0 c3 c4
 have HP:=Lib.hid hp
 clear hp h
 refine leaves_cons (f:=142) (args:=#[.pointer (some ⟨w0.heap.size+1,0,none⟩),.pointer (some ⟨w0.heap.size+1+1,0,none⟩),.pointer (some ⟨w0.heap.size,0,none⟩)]) (by simp) (by simp [go_sem]) ?_
 refine (batch_idle _ _ _ _).mono ?_
 rintro e u' w2 ⟨rfl,rfl,rfl⟩
 simp [Leaves,settle,results,Tryz.results63,go_sem,h2,h3,h4,c0,c3,c4]
 exact HP.out
set_option maxHeartbeats 4000000 in
set_option maxRecDepth 100000 in
theorem batch_bad (s:ByteArray) (w:World) (a f:Int) (hop:∀ W,Below w.heap.size w W->Calls Tryz.prog 54 #[.string s] W fun e w'=>e=.panicked [{ v:=faultV a f,recovered:=false }]/\Below W.heap.size W w') :
 Calls Tryz.prog 63 #[.string s] w (BPost w (.bad a f)):=by
 have hmf:∀ (fn:Fn) (first cap:Array Value) (w:World),(Instr.makeFunc fn first cap).run Tryz.prog w=.ok (.func fn first cap) w:=fun _ _ _ _=>rfl
 have hps:=PB.start w
 have ho:=hop _ hps.b
 have HPS:=Lib.hid hps
 have HO:=Lib.hid ho
 clear hps ho hop
 go_enter_defers Tryz.func63,Tryz.ntmps63
 go_wp2_with fail
 refine HO.out.mono ?_
 rintro e w1 ⟨rfl,hb⟩
 have hp:=HPS.out.keep hb
 have HP:=Lib.hid hp
 clear hb hp
 go_wp2_with fail
 exact batch_door HP.out rfl rfl rfl
theorem Tryz.info_Val:(Tryz.prog.info? 111).map (fun i=>(i.zero,i.size,i.bytes))=some (some (.agg #[.int .i64 0,.int .i64 0,.string ⟨#[]⟩]),3,32):=by kernel_rfl
set_option maxHeartbeats 16000000 in
set_option maxRecDepth 100000 in
theorem some_Val {α:Type} (P:List Tok->PR α) (El:World->List Value->α->Prop) (J:World->List α->Prop) (B:Nat) (Ts:List TypeId) (r:Nat) (vt:Value) (lb:Array Value)
 (hP:Less P) (hB:B<=r) (hR:213∈Ts) (hT:111 ∉ Ts)
 (hJ:∀ (w w':World) (xs:List α),MT B [111,213] w w'->J w xs->J w' xs)
 (hE:∀ (w w':World) (cs:List Value) (x:α),MT B (111::Ts) w w'->El w cs x->El w' cs x)
 (hone:∀ (w:World) (xs:List α) (c:List Tok),B<=w.heap.size->J w xs->Rs w r c vt->Calls Tryz.prog 144 lb w (PPost (fun x c' v w'=>OneR 3 El J r vt xs x c' v w') B Ts w (P c)))
 (w:World) (c:List Tok) (hc:Rs w r c vt) (hj:J w []) (hw:B<=w.heap.size) :
 Calls Tryz.prog 147 #[.pointer (some ⟨r,0,none⟩),.func (.func 144) #[] lb] w (PPost (fun xs c' v w'=>ListR w.heap.size 111 3 El J r vt xs c' v w') B Ts w (someP P c)):=by
 obtain⟨i0,hi0,hz0,hz1,hz2⟩:=info_parts Tryz.info_Val
 have hlen:=hc.len
 have HONE:=Lib.hid hone
 have HJ:=Lib.hid hJ
 have HE:=Lib.hid hE
 have hone0:=hone w [] c hw hj hc
 have hTR:111 ∉ [213]:=by decide
 clear hone hJ hE hj hc
 cases hp:P c with
 | bad a e =>
   rw[hp] at hone0
   rw[some_bad hp]
   have HO:=Lib.hid hone0
   clear hp hone0
   go_enter Tryz.func147,Tryz.ntmps147
   go_wp2_with fail
   refine HO.out.mono ?_
   rintro e' w1 ⟨rfl,hm⟩
   have HM:=Lib.hid hm
   clear hm
   go_wp2_with fail
   exact⟨rfl,ppost_bad HM.out⟩
 | ok x c1 =>
   rw[hp] at hone0
   rw[some_ok hp]
   have HO:=Lib.hid hone0
   have hl1:=hP _ _ _ hp
   clear hp hone0
   have HRES:Hid (restP P [x] c1=restP P [x] c1):=Lib.hid rfl
   generalize hres:restP P [x] c1=RES at HRES ⊢
   clear HRES
   have HRS:=Lib.hid hres
   clear hres
   go_enter Tryz.func147,Tryz.ntmps147
   go_wp2_with fail
   refine HO.out.mono ?_
   rintro e' w1 ⟨v,rfl,⟨cs,rfl,⟨hl,h1,he⟩,hj1,hr1⟩,hm⟩
   obtain⟨e0,e1,e2,rfl⟩:=len3 hl
   have hsz1:=hm.size
   have hal:MT B [111,213] w1 (w1.alloc (.cells #[e0,e1,e2] 111)):=(MT.refl w1).alloc _
   have HJ1:=Lib.hid (HJ.out _ _ _ hal hj1)
   have HM1:=Lib.hid (hm.alloc (.cells #[e0,e1,e2] 111))
   have HE1:=Lib.hid (show ElOk 3 El (w1.alloc (.cells #[e0,e1,e2] 111)) [e0,e1,e2] x from ⟨hl,h1,HE.out _ _ _ _ ((MT.refl w1).alloc _) he⟩)
   have HR1:=Lib.hid (hr1.keep (balloc (Below.refl _ _) (.cells #[e0,e1,e2] 111)))
   have HO1:=Lib.hid (World.ownsRow_lit (base:=w.heap.size) (e:=111) (size:=3) w1 #[e0,e1,e2] 1 hsz1 (by unfold maxLen;omega) rfl)
   clear hl h1 he hj1 hr1 hm hal HO
   go_wp2_with fail
   go_loopw [5] (fun v wr=>∃ (ys:List α) (css:List (List Value)) (cc:List Tok) (ad:Option Addr) (cap:Nat),v=.slice ad ys.length cap/\Hid (wr.ownsRow w.heap.size 111 3 (.slice ad ys.length cap) ys.length css.flatten)/\Hid (All2 (ElOk 3 El wr) css ys)/\Hid (J wr ys)/\Hid (Rs wr r cc vt)/\Hid (MT B Ts w wr)/\Hid (restP P ys cc=RES)/\ys.length+cc.length<=200000) (fun v _=>200000 - (match v with | .slice _ n _=>n | _=>0))
   case atStart=>exact⟨[x],[[e0,e1,e2]],c1,some ⟨w1.heap.size,0,none⟩,1,rfl,HO1,Lib.hid ⟨HE1.out,trivial⟩,HJ1,HR1,HM1,HRS,by simp;omega⟩
   case round =>
    obtain⟨ys,css,cc,ad,cap,rfl,OW,AL,JW,RW,MW,RE,hbd⟩:=hrel
    have HIS:=Lib.hid (is_rs RW.out [44])
    cases him:isM [44] cc with
    | false =>
      have hre:=RE.out
      rw[restP_end ys him] at hre
      rw[him] at HIS
      subst hre
      clear him
      go_wp2_with fail
      refine HIS.out.mono ?_
      rintro e2 w2 ⟨rfl,hb2⟩
      have HB2:=Lib.hid hb2
      clear hb2
      go_wp2_with fail
      go_ret
      refine⟨_,rfl,⟨css,(Mod.ofBelow (F:=fun _=>False) HB2.out).ownsRow OW.out (fun _ _ f=>f),AL.out.mono (fun b a h=>⟨h.1,h.2.1,HE.out _ _ _ _ (MT.ofBelow HB2.out) h.2.2⟩),HJ.out _ _ _ (MT.ofBelow HB2.out) JW.out,RW.out.keep HB2.out⟩,MW.out.plusBelow HB2.out⟩
    | true =>
      obtain⟨t,htk⟩:=isM_tk him
      have hne:1<=cc.length:=by
       cases cc with
       | nil=>simp [isM] at him
       | cons _ _=>simp
      have hdl:(cc.drop 1).length=cc.length - 1:=List.length_drop ..
      rw[him] at HIS
      have HIM:=Lib.hid him
      have HTK:=Lib.hid htk
      clear him htk
      go_wp2_with fail
      refine HIS.out.mono ?_
      rintro e2 w2 ⟨rfl,hb2⟩
      have HMK:=Lib.hid (mark_rs (B:=B) (Ts:=[213]) (RW.out.keep hb2) [44] hB (by simp))
      rw[HTK.out] at HMK
      have HB2:=Lib.hid hb2
      clear hb2
      go_wp2_with fail
      refine HMK.out.mono ?_
      rintro e3 w3 ⟨v3,rfl,⟨rfl,hr3⟩,hm3⟩
      have m03:MT B [213] wr w3:=(MT.ofBelow HB2.out).trans hm3
      have hB3:B<=w3.heap.size:=by have:=MW.out.size;have:=m03.size;omega
      have hone3:=HONE.out w3 ys (cc.drop 1) hB3 (HJ.out _ _ _ (m03.wide (by simp)) JW.out) hr3
      have M03:=Lib.hid m03
      have toTs:∀ t∈[213],t∈Ts:=fun t ht=>by simp at ht;subst ht;exact hR
      have TOTS:=Lib.hid toTs
      clear hr3 hm3 m03 toTs
      unfold Tok.v
      cases hp:P (cc.drop 1) with
      | bad a e =>
        rw[hp] at hone3
        have hre:=RE.out
        rw[restP_bad ys HIM.out hp] at hre
        subst hre
        have HO3:=Lib.hid hone3
        clear hp hone3
        go_wp2_with fail
        refine HO3.out.mono ?_
        rintro e4 w4 ⟨rfl,hm4⟩
        have HM4:=Lib.hid hm4
        clear hm4
        go_wp2_with fail
        exact⟨rfl,ppost_bad ((MW.out.trans (M03.out.wide TOTS.out)).trans HM4.out)⟩
      | ok x c4 =>
        rw[hp] at hone3
        have hre:=restP_ok hP ys HIM.out hp
        have hl4:=hP _ _ _ hp
        have hrq:=hre.1
        rw[RE.out] at hrq
        have HRE:=Lib.hid hrq.symm
        have HO3:=Lib.hid hone3
        clear hp hone3 hre hrq
        go_wp2_with fail
        refine HO3.out.mono ?_
        rintro e4 w4 ⟨v4,rfl,⟨cs4,rfl,⟨hl,h1,he⟩,hj4,hr4⟩,hm4⟩
        obtain⟨e0,e1,e2,rfl⟩:=len3 hl
        have m04:MT B Ts wr w4:=(M03.out.wide TOTS.out).trans hm4
        have HO4:=Lib.hid (m04.ownsRow OW.out hT)
        have HW4:=Lib.hid (MW.out.trans m04)
        have hsz4:=HW4.out.size
        have M04:=Lib.hid m04
        have H1:=Lib.hid h1
        have HEL:=Lib.hid he
        have HJ4:=Lib.hid hj4
        have HR4:=Lib.hid hr4
        clear hl h1 he hj4 hr4 hm4 m04
        go_wp2_with (at_builtin;refine wpList_append_lies _ rfl (.tmp 13) (.tmp 16) 58 rfl w.heap.size 111 i0 (.agg #[.int .i64 0,.int .i64 0,.string ⟨#[]⟩]) 3 32 Tryz.underlying58 hi0 hz0 hz1 hz2 rfl (by decide) (.slice ad ys.length cap) ys.length _ rfl (HO4.out.alloc _) ⟨_,0,none⟩ 1 1 [e0,e1,e2] rfl rfl (World.news_of_block (Blk.new _ _ _)) H1.out (by decide) ?c3 ?c5 ?c4 _ rfl ?_)
        case c3=>unfold maxLen;omega
        case c5=>omega
        case c4=>simp;omega
        intro g cap1 w5 hown2 hgrow2 hat2 hlt2
        have m45:MT B [111] w4 w5:=((MT.refl w4).alloc _).grown hgrow2 (HO4.out.alloc _) (by simp) hw
        have mall:MT B (111::Ts) wr w5:=(M04.out.wide (fun _ h=>List.mem_cons_of_mem _ h)).trans (m45.wide (by simp))
        have HO5:=Lib.hid hown2
        have MALL:=Lib.hid mall
        have M45:=Lib.hid m45
        have HG:=Lib.hid hgrow2
        clear hown2 hgrow2 hat2 hlt2 m45 mall
        go_wp2_with fail
        go_roundw
        case rel =>
         refine⟨ys++[x],css++[[e0,e1,e2]],c4,some ⟨g,0,none⟩,cap1,by simp,Lib.hid ?_,Lib.hid ?_,Lib.hid (HJ.out _ _ _ (M45.out.wide (by simp)) HJ4.out),Lib.hid (HR4.out.mt M45.out (by decide) (by decide)),Lib.hid ?_,HRE,by simp;omega⟩
         ·have:=HO5.out
          simpa [List.flatten_append] using this
         ·exact (AL.out.mono (fun b a h=>⟨h.1,h.2.1,HE.out _ _ _ _ MALL.out h.2.2⟩)).snoc ⟨rfl,H1.out,HE.out _ _ _ _ (M45.out.wide (by simp)) HEL.out⟩
         ·exact Mod.grown (HW4.out.alloc _) HG.out (fun k hk hlt=>by have:=(HO4.out.lt k hk).1;omega)
        case measure=>simp;omega
set_option maxHeartbeats 16000000 in
set_option maxRecDepth 100000 in
theorem list_Val {α:Type} (P:List Tok->PR α) (El:World->List Value->α->Prop) (J:World->List α->Prop) (B:Nat) (Ts:List TypeId) (r:Nat) (vt:Value) (lb:Array Value)
 (hP:Less P) (hB:B<=r) (hR:213∈Ts) (hT:111 ∉ Ts)
 (hJ:∀ (w w':World) (xs:List α),MT B [111,213] w w'->J w xs->J w' xs)
 (hE:∀ (w w':World) (cs:List Value) (x:α),MT B (111::Ts) w w'->El w cs x->El w' cs x)
 (hone:∀ (w:World) (xs:List α) (c:List Tok),B<=w.heap.size->J w xs->Rs w r c vt->Calls Tryz.prog 144 lb w (PPost (fun x c' v w'=>OneR 3 El J r vt xs x c' v w') B Ts w (P c)))
 (w:World) (c:List Tok) (hc:Rs w r c vt) (hj:J w []) (hw:B<=w.heap.size) :
 Calls Tryz.prog 66 #[.pointer (some ⟨r,0,none⟩),.func (.func 144) #[] lb] w (PPost (fun xs c' v w'=>ListR w.heap.size 111 3 El J r vt xs c' v w') B Ts w (listP P c)):=by
 have HSOME:=Lib.hid (fun W C=>some_Val P El J B Ts r vt lb hP hB hR hT hJ hE hone W C)
 have HJ:=Lib.hid hJ
 have HE:=Lib.hid hE
 have hmk:=mark_rs (B:=B) (Ts:=[213]) hc [40] hB (by simp)
 have HJW:=Lib.hid hj
 have toTs:∀ t∈[213],t∈Ts:=fun t ht=>by simp at ht;subst ht;exact hR
 have TOTS:=Lib.hid toTs
 clear hone hJ hE hj hc toTs
 cases h0:tk 3 [[40]] c with
 | bad a e =>
   rw[h0] at hmk
   rw[list_bad0 h0]
   have HMK:=Lib.hid hmk
   clear hmk h0
   go_enter Tryz.func66,Tryz.ntmps66
   go_wp2_with fail
   refine HMK.out.mono ?_
   rintro e1 w1 ⟨rfl,hm⟩
   have HM:=Lib.hid hm
   clear hm
   go_wp2_with fail
   exact⟨rfl,ppost_bad (HM.out.wide TOTS.out)⟩
 | ok t c1 =>
   rw[h0] at hmk
   have H0:=Lib.hid h0
   have HMK:=Lib.hid hmk
   clear hmk h0
   cases him:isM [41] c1 with
   | true =>
     rw[list_none H0.out him]
     obtain⟨u,hu⟩:=isM_tk him
     have HIM:=Lib.hid him
     have HU:=Lib.hid hu
     clear him hu
     go_enter Tryz.func66,Tryz.ntmps66
     go_wp2_with fail
     refine HMK.out.mono ?_
     rintro e1 w1 ⟨v1,rfl,⟨rfl,hr1⟩,hm⟩
     have HM:=Lib.hid hm
     have HR1:=Lib.hid hr1
     have his:=is_rs hr1 [41]
     rw[HIM.out] at his
     have HIS:=Lib.hid his
     clear hm hr1 his
     unfold Tok.v
     go_wp2_with fail
     refine HIS.out.mono ?_
     rintro e2 w2 ⟨rfl,hb2⟩
     have hmk2:=mark_rs (B:=B) (Ts:=[213]) (HR1.out.keep hb2) [41] hB (by simp)
     rw[HU.out] at hmk2
     have HMK2:=Lib.hid hmk2
     have HB2:=Lib.hid hb2
     clear hb2 hmk2
     go_wp2_with fail
     refine HMK2.out.mono ?_
     rintro e3 w3 ⟨v3,rfl,⟨rfl,hr3⟩,hm3⟩
     have m3:MT B [213] w w3:=(HM.out.plusBelow HB2.out).trans hm3
     have M3:=Lib.hid m3
     have HR3:=Lib.hid hr3
     clear hr3 hm3 m3
     unfold Tok.v
     go_wp2_with fail
     go_ret
     exact⟨_,rfl,⟨[],World.ownsRow_nil _ _ _ _,trivial,HJ.out _ _ _ (M3.out.wide (by simp)) HJW.out,HR3.out⟩,M3.out.wide TOTS.out⟩
   | false =>
     have HIM:=Lib.hid him
     clear him
     cases hs:someP P c1 with
     | bad a e =>
       rw[list_bad1 H0.out HIM.out hs]
       have HS:=Lib.hid hs
       clear hs
       go_enter Tryz.func66,Tryz.ntmps66
       go_wp2_with fail
       refine HMK.out.mono ?_
       rintro e1 w1 ⟨v1,rfl,⟨rfl,hr1⟩,hm⟩
       have HM:=Lib.hid hm
       have HR1:=Lib.hid hr1
       have his:=is_rs hr1 [41]
       rw[HIM.out] at his
       have HIS:=Lib.hid his
       clear hm hr1 his
       unfold Tok.v
       go_wp2_with fail
       refine HIS.out.mono ?_
       rintro e2 w2 ⟨rfl,hb2⟩
       have m2:MT B [213] w w2:=HM.out.plusBelow hb2
       have hso:=HSOME.out w2 c1 (HR1.out.keep hb2) (HJ.out _ _ _ (m2.wide (by simp)) HJW.out) (by have:=m2.size;omega)
       rw[HS.out] at hso
       have HSO:=Lib.hid hso
       have M2:=Lib.hid m2
       clear hso m2 hb2
       go_wp2_with fail
       refine HSO.out.mono ?_
       rintro e3 w3 ⟨rfl,hm3⟩
       have HM3:=Lib.hid hm3
       clear hm3
       go_wp2_with fail
       exact⟨rfl,ppost_bad ((M2.out.wide TOTS.out).trans HM3.out)⟩
     | ok xs c2 =>
       cases h4:tk 3 [[41]] c2 with
       | bad a e =>
         rw[list_bad2 H0.out HIM.out hs h4]
         have HS:=Lib.hid hs
         have H4:=Lib.hid h4
         clear hs h4
         go_enter Tryz.func66,Tryz.ntmps66
         go_wp2_with fail
         refine HMK.out.mono ?_
         rintro e1 w1 ⟨v1,rfl,⟨rfl,hr1⟩,hm⟩
         have HM:=Lib.hid hm
         have HR1:=Lib.hid hr1
         have his:=is_rs hr1 [41]
         rw[HIM.out] at his
         have HIS:=Lib.hid his
         clear hm hr1 his
         unfold Tok.v
         go_wp2_with fail
         refine HIS.out.mono ?_
         rintro e2 w2 ⟨rfl,hb2⟩
         have m2:MT B [213] w w2:=HM.out.plusBelow hb2
         have hso:=HSOME.out w2 c1 (HR1.out.keep hb2) (HJ.out _ _ _ (m2.wide (by simp)) HJW.out) (by have:=m2.size;omega)
         rw[HS.out] at hso
         have HSO:=Lib.hid hso
         have M2:=Lib.hid m2
         clear hso m2 hb2
         go_wp2_with fail
         refine HSO.out.mono ?_
         rintro e3 w3 ⟨v3,rfl,⟨css,hown,hal,hj3,hr3⟩,hm3⟩
         obtain⟨ad,cap,rfl⟩:=own_sl hown
         have hmk3:=mark_rs (B:=B) (Ts:=[213]) hr3 [41] hB (by simp)
         rw[H4.out] at hmk3
         have hl2:=M2.out.size
         have HOWN:=Lib.hid (World.ownsRow.low hown hl2)
         have HAL:=Lib.hid hal
         have HJ3:=Lib.hid hj3
         have HM3:=Lib.hid ((M2.out.wide TOTS.out).trans hm3)
         have HMK3:=Lib.hid hmk3
         clear hown hal hj3 hm3 hr3 hmk3
         go_wp2_with fail
         refine HMK3.out.mono ?_
         rintro e4 w4 ⟨rfl,hm4⟩
         have HM4:=Lib.hid hm4
         clear hm4
         go_wp2_with fail
         exact⟨rfl,ppost_bad (HM3.out.trans (HM4.out.wide TOTS.out))⟩
       | ok u c3 =>
         rw[list_ok H0.out HIM.out hs h4]
         have HS:=Lib.hid hs
         have H4:=Lib.hid h4
         clear hs h4
         go_enter Tryz.func66,Tryz.ntmps66
         go_wp2_with fail
         refine HMK.out.mono ?_
         rintro e1 w1 ⟨v1,rfl,⟨rfl,hr1⟩,hm⟩
         have HM:=Lib.hid hm
         have HR1:=Lib.hid hr1
         have his:=is_rs hr1 [41]
         rw[HIM.out] at his
         have HIS:=Lib.hid his
         clear hm hr1 his
         unfold Tok.v
         go_wp2_with fail
         refine HIS.out.mono ?_
         rintro e2 w2 ⟨rfl,hb2⟩
         have m2:MT B [213] w w2:=HM.out.plusBelow hb2
         have hso:=HSOME.out w2 c1 (HR1.out.keep hb2) (HJ.out _ _ _ (m2.wide (by simp)) HJW.out) (by have:=m2.size;omega)
         rw[HS.out] at hso
         have HSO:=Lib.hid hso
         have M2:=Lib.hid m2
         clear hso m2 hb2
         go_wp2_with fail
         refine HSO.out.mono ?_
         rintro e3 w3 ⟨v3,rfl,⟨css,hown,hal,hj3,hr3⟩,hm3⟩
         obtain⟨ad,cap,rfl⟩:=own_sl hown
         have hmk3:=mark_rs (B:=B) (Ts:=[213]) hr3 [41] hB (by simp)
         rw[H4.out] at hmk3
         have hl2:=M2.out.size
         have HOWN:=Lib.hid (World.ownsRow.low hown hl2)
         have HAL:=Lib.hid hal
         have HJ3:=Lib.hid hj3
         have HM3:=Lib.hid ((M2.out.wide TOTS.out).trans hm3)
         have HMK3:=Lib.hid hmk3
         clear hown hal hj3 hm3 hr3 hmk3
         go_wp2_with fail
         refine HMK3.out.mono ?_
         rintro e4 w4 ⟨v4,rfl,⟨rfl,hr4⟩,hm4⟩
         have HM4:=Lib.hid hm4
         have HR4:=Lib.hid hr4
         clear hm4 hr4
         unfold Tok.v
         go_wp2_with fail
         go_ret
         exact⟨_,rfl,⟨css,HM4.out.ownsRow HOWN.out (by decide),HAL.out.mono (fun b a h=>⟨h.1,h.2.1,HE.out _ _ _ _ ((HM4.out.wide TOTS.out).wide (fun _ h=>List.mem_cons_of_mem _ h)) h.2.2⟩),HJ.out _ _ _ (HM4.out.wide (by simp)) HJ3.out,HR4.out⟩,HM3.out.trans (HM4.out.wide TOTS.out)⟩
def ElV (_:World) (cs:List Value) (x:Vl):Prop:=cs=x.cells
set_option maxHeartbeats 4000000 in
set_option maxRecDepth 100000 in
theorem litClo_any {w:World} {b r:Nat} {c:List Tok} {vt:Value} {B:Nat} {xs:List Vl} (hi:InB w b r) (h:Rs w r c vt) (hB:B<=r) (hw:B<=w.heap.size) :
 Calls Tryz.prog 144 #[.pointer (some ⟨b,0,none⟩)] w (PPost (fun x c' v w'=>OneR 3 ElV (fun w _=>InB w b r) r vt xs x c' v w') B [213] w (litP c)):=by
 have hf2:∀ (a b c d e f:Value) (w:World),(Instr.field 122 (.agg #[a,b,c,d,e,f]) 2).run Tryz.prog w=.ok (.agg #[c,d,e]) w:=fun _ _ _ _ _ _ _=>by kernel_rfl
 have hb0:Below w.heap.size w (w.alloc (.cells #[.int .i64 0,.int .i64 0,.string ⟨#[]⟩] 111)):=balloc (Below.refl _ _) _
 have htk:=take_rs (B:=B) (Ts:=[213]) (h.keep hb0) 2 [] _ (tx_nil _) hB (by simp)
 have zb:=Blk.new w 111 #[.int .i64 0,.int .i64 0,.string ⟨#[]⟩]
 have hi0:InB (w.alloc (.cells #[.int .i64 0,.int .i64 0,.string ⟨#[]⟩] 111)) b r:=Blk.alloc hi _
 have x0:=Blk.cell hi 0
 have hbl:=Blk.lt hi
 simp at x0
 have HI0:=Lib.hid hi0
 have HB0:=Lib.hid hb0
 have ZB:=Lib.hid zb
 clear h hb0 zb hi hi0
 cases h0:tk 2 [] c with
 | bad a e =>
   rw[h0] at htk
   rw[lit_bad h0]
   have HTK:=Lib.hid htk
   clear h0 htk
   go_enter Tryz.func144,Tryz.ntmps144
   go_wp2_with fail
   refine HTK.out.mono ?_
   rintro e w1 ⟨rfl,hm⟩
   have HM:=Lib.hid hm
   clear hm
   go_wp2_with fail
   exact⟨rfl,ppost_bad ((MT.ofBelow HB0.out).trans HM.out)⟩
 | ok t c1 =>
   rw[h0] at htk
   have HTK:=Lib.hid htk
   rw[lit_ok h0]
   clear htk h0
   go_enter Tryz.func144,Tryz.ntmps144
   go_wp2_with fail
   refine HTK.out.mono ?_
   rintro e w1 ⟨v,rfl,⟨rfl,hr1⟩,hm1⟩
   have zb1:=ZB.out.mt hm1 (by decide)
   have hi1:InB w1 b r:=Blk.mt HI0.out hm1 (by decide)
   have HZ1:=Lib.hid zb1
   have HI1:=Lib.hid hi1
   have HR1:=Lib.hid hr1
   have HM1:=Lib.hid ((MT.ofBelow HB0.out).trans hm1)
   clear zb1 hi1 hr1 hm1 HTK
   unfold Tok.v
   go_wp2_with (refine wpList_store_blk rfl 111 _ _ rfl w.heap.size 111 _ _ rfl rfl HZ1.out (by kernel_rfl) rfl (by simp [Value.oneCell']) ?_)
   intro w4 hb4 hm4 hz4
   have r0:=hb4.cell 0
   have r1:=hb4.cell 1
   have r2:=hb4.cell 2
   simp only[List.getElem?_toArray,List.getElem?_cons_zero,List.getElem?_cons_succ] at r0 r1 r2
   have m4:MT 0 [111] w1 w4:=MT.ofMod hm4 HZ1.out (by simp) (Nat.zero_le _)
   have HP:Hid (PPost (fun x c' v w'=>OneR 3 ElV (fun w _=>InB w b r) r vt xs x c' v w') B [213] w (.ok ⟨t.vk,t.vn,t.vt⟩ c1) (.returned (.agg #[.int .i64 t.vk,.int .i64 t.vn,.string ⟨t.vt.toArray⟩])) w4) :=
    Lib.hid ⟨_,rfl,⟨[.int .i64 t.vk,.int .i64 t.vn,.string ⟨t.vt.toArray⟩],rfl,⟨rfl,by
     intro z hz
     simp only[List.mem_cons,List.not_mem_nil,or_false] at hz
     rcases hz with rfl | rfl | rfl<;>rfl,rfl⟩,Blk.mt HI1.out m4 (by decide),HR1.out.mt m4 (by decide) (by decide)⟩,HM1.out.own hm4 (Nat.le_refl _)⟩
   clear hb4 hm4 hz4 m4
   go_wp2_with fail
   exact bodyPost_ret (v:=.agg #[.int .i64 t.vk,.int .i64 t.vn,.string ⟨t.vt.toArray⟩]) (by simp [results,Tryz.results144,go_sem, *]) rfl HP.out
theorem all2_elV {w:World}:∀ {css:List (List Value)} {xs:List Vl},All2 (ElOk 3 ElV w) css xs->css=xs.map Vl.cells
 | [],[],_=>rfl
 | c::css,x::xs,h=>by
   rw[List.map_cons,<-all2_elV h.2]
   have h1:c=x.cells:=h.1.2.2
   rw[h1]
 | [],_::_,h=>h.elim
 | _::_,[],h=>h.elim
theorem vals_any {w:World} {b r:Nat} {c:List Tok} {vt:Value} {B:Nat} (hi:InB w b r) (h:Rs w r c vt) (hB:B<=r) (hw:B<=w.heap.size) :
 Calls Tryz.prog 66 #[.pointer (some ⟨r,0,none⟩),.func (.func 144) #[] #[.pointer (some ⟨b,0,none⟩)]] w
  (PPost (fun xs c' v w'=>w'.ownsRow w.heap.size 111 3 v xs.length (xs.map Vl.cells).flatten/\InB w' b r/\Rs w' r c' vt) B [213] w (listP litP c)):=by
 refine (list_Val litP ElV (fun w _=>InB w b r) B [213] r vt #[.pointer (some ⟨b,0,none⟩)] lit_less hB (by simp) (by decide) (fun w w' xs hm hj=>Blk.mt hj hm (by decide)) (fun _ _ _ _ _ h=>h) ?_ w c h hi hw).mono ?_
 ·intro w xs c hw hj hr
  exact litClo_any hj hr hB hw
 ·intro e w' hp
  refine hp.mono fun xs c' v w' hh=>?_
  obtain⟨css,h1,h2,h3,h4⟩:=hh
  rw[all2_elV h2] at h1
  exact⟨h1,h3,h4⟩
end Go.Proofs.YtgopfpjinohncaaGreatDoor
