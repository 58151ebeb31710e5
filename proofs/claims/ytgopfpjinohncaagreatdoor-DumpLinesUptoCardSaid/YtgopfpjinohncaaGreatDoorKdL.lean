/- schema.Parse's deferred closure, walked; its named results; its doors. schema.Parse and change.Parse at a name with nothing in its brackets, walked. change.Parse at one addition of an empty row, walked (printed by mkbsp.py). -/
import Derived.Test.YtgopfpjinohncaaGreatDoorGaL
import Derived.Test.YtgopfpjinohncaaGreatDoorKaL
import Derived.Test.YtgopfpjinohncaaGreatDoorGnL
import Derived.Test.YtgopfpjinohncaaGreatDoorGcL
import Derived.Test.YtgopfpjinohncaaGreatDoorBaL
import Derived.Defers
import Derived.Recover
namespace Go.Proofs.YtgopfpjinohncaaGreatDoor
open Go.RowKit
set_option linter.unusedVariables false
set_option maxHeartbeats 2000000 in
set_option maxRecDepth 100000 in
theorem schema_idle (p q r:Addr) (w:World) :
 CallsD Tryz.prog 125 #[.pointer (some p),.pointer (some q),.pointer (some r)] .returning w fun e u' w'=>e=.returned (.tuple #[])/\u'=.returning/\w'=w:=by
 have hc:=caught_nil p q w
 refine callsD_of_wpS Tryz.func125 rfl fun c₀ cs hu=>?_
 apply wpS_seq
 apply wpS_region
 simp [wpOpsS,go_sem,recoverD,hu,Tryz.ntmps125,Exit.thenS]
 refine hc.mono ?_
 rintro e w1 ⟨rfl,rfl⟩
 refine wpS_cond (t:=false) (by simp [Act.eval,Array.replicate]) ?_
 simp only[Bool.false_eq_true,if_false]
 refine wpS_of_wp (wp_skip ?_)
 cases c₀
 simp_all [bodyPostS,results,Tryz.results125]
structure PS (w0:World) (n:Nat) (cs:Array Value) (w:World):Prop where
 q:Blk w n 57 cs
 a:Blk w (n+1) 3 #[.int .i64 0]
 e:Blk w (n+1+1) 29 #[.int .i64 0]
 b:Below n w0 w
 s:n+3<=w.heap.size
section
variable {w0 w w' : World} {n : Nat} {cs : Array Value}
theorem PS.below (h:PS w0 n cs w) (hb:Below (n+3) w w'):PS w0 n cs w' :=
 ⟨h.q.below hb (by omega),h.a.below hb (by omega),h.e.below hb (by omega),h.b.trans (hb.mono (by omega)),Nat.le_trans h.s hb.size⟩
theorem PS.mt {Ts:List TypeId} (h:PS w0 n cs w) (hm:MT (n+3) Ts w w'):PS w0 n cs w':=h.below (hm.below h.s)
theorem PS.keep (h:PS w0 n cs w) (hb:Below w.heap.size w w'):PS w0 n cs w':=h.below (hb.mono h.s)
theorem PS.store (h:PS w0 n cs w) (i:Nat) (u:Value):PS w0 n (cs.setIfInBounds i u) (w.setCell ⟨n,i,none⟩ u) :=
 ⟨h.q.set_ i u,h.a.far (by intro q;simp only at q;omega) u,h.e.far (by intro q;simp only at q;omega) u,h.b.setCell (Nat.le_refl _) u,by simpa [World.setCell] using h.s⟩
end
def SPost (w:World):PR Rln->Ending->World->Prop
 | .bad a f,e,w'=>e=.returned (.tuple #[.agg #[.string ⟨#[]⟩,.slice none 0 0],.int .i64 a,.int .i64 f])/\Below w.heap.size w w'
 | .ok q _,e,w'=>∃ cv,e=.returned (.tuple #[.agg #[.string ⟨q.name.toArray⟩,cv],.int .i64 0,.int .i64 0])/\ColsOwn w.heap.size w' cv q.cols/\Below w.heap.size w w'
theorem PS.start (w:World):PS w w.heap.size #[.string ⟨#[]⟩,.slice none 0 0] (((w.alloc (.cells #[.string ⟨#[]⟩,.slice none 0 0] 57)).alloc (.cells #[.int .i64 0] 3)).alloc (.cells #[.int .i64 0] 29)):=by
 refine⟨((Blk.new w _ _).alloc _).alloc _,?_,?_,balloc (balloc (balloc (Below.refl _ _) _) _) _,by simp⟩
 ·have:=(Blk.new (w.alloc (.cells #[.string ⟨#[]⟩,.slice none 0 0] 57)) 3 #[.int .i64 0]).alloc (.cells #[.int .i64 0] 29)
  simpa using this
 ·have:=Blk.new ((w.alloc (.cells #[.string ⟨#[]⟩,.slice none 0 0] 57)).alloc (.cells #[.int .i64 0] 3)) 29 #[.int .i64 0]
  simpa using this
theorem PS.fin {w0 w:World} {n:Nat} {x y:Value} (h:PS w0 n #[x,y] w) :
 PS w0 n #[x,y] ((((w.setCell ⟨n,0,none⟩ x).setCell ⟨n,1,none⟩ y).setCell ⟨n+1,0,none⟩ (.int .i64 0)).setCell ⟨n+1+1,0,none⟩ (.int .i64 0)) /\
 MT 0 [57,3,29] w ((((w.setCell ⟨n,0,none⟩ x).setCell ⟨n,1,none⟩ y).setCell ⟨n+1,0,none⟩ (.int .i64 0)).setCell ⟨n+1+1,0,none⟩ (.int .i64 0)):=by
 have h1:=h.store 0 x
 have h2:=h1.store 1 y
 have a4:=h2.a.set_ 0 (.int .i64 0)
 have q4:=h2.q.far (p:=⟨n+1,0,none⟩) (by intro q;simp only at q;omega) (.int .i64 0)
 have e4:=h2.e.far (p:=⟨n+1,0,none⟩) (by intro q;simp only at q;omega) (.int .i64 0)
 have e5:=e4.set_ 0 (.int .i64 0)
 have q5:=q4.far (p:=⟨n+1+1,0,none⟩) (by intro q;simp only at q;omega) (.int .i64 0)
 have a5:=a4.far (p:=⟨n+1+1,0,none⟩) (by intro q;simp only at q;omega) (.int .i64 0)
 simp only[Array.setIfInBounds] at q5 a5 e5
 refine⟨⟨by simpa using q5,by simpa using a5,by simpa using e5,(h2.b.setCell (by simp only;omega) _).setCell (by simp only;omega) _,by simpa [World.setCell] using h.s⟩,?_⟩
 have m1:MT 0 [57,3,29] w _:=MT.setCell (i:=0) (MT.refl w) h.q (by simp) (Nat.zero_le _) x
 have m2:=MT.setCell (i:=1) m1 h1.q (by simp) (Nat.zero_le _) y
 have m4:=MT.setCell (i:=0) m2 h2.a (by simp) (Nat.zero_le _) (.int .i64 0)
 exact MT.setCell (i:=0) m4 e4 (by simp) (Nat.zero_le _) (.int .i64 0)
set_option maxHeartbeats 1000000 in
set_option maxRecDepth 100000 in
theorem sch_exit {w0 w1:World} {x y:Value} {T:Array Value} {Post:Ending->World->Prop} (h:PS w0 w0.heap.size #[x,y] w1) (h2:T[2]?.getD undef=.pointer (some ⟨w0.heap.size,0,none⟩)) (h3:T[3]?.getD undef=.pointer (some ⟨w0.heap.size+1,0,none⟩)) (h4:T[4]?.getD undef=.pointer (some ⟨w0.heap.size+1+1,0,none⟩))
 (hx:x.oneCell'=true) (hy:y.oneCell'=true)
 (hp:Post (.returned (.tuple #[.agg #[x,y],.int .i64 0,.int .i64 0])) w1) :
 bodyPostD Tryz.prog Tryz.f59 Post Exit.ret
  { tmps:=T,defers:=[{ target:=Target.fn (Fn.func 125) #[.pointer (some ⟨w0.heap.size+1,0,none⟩),.pointer (some ⟨w0.heap.size+1+1,0,none⟩),.pointer (some ⟨w0.heap.size,0,none⟩)],args:=#[] }] } w1:=by
 have c0:=h.q.cell 0
 have c1:=h.q.cell 1
 have c3:=h.a.cell 0
 have c4:=h.e.cell 0
 simp only[List.getElem?_toArray,List.getElem?_cons_zero,List.getElem?_cons_succ] at c0 c1 c3 c4
 have HP:=Lib.hid hp
 clear hp h
 refine leaves_cons (f:=125) (args:=#[.pointer (some ⟨w0.heap.size+1,0,none⟩),.pointer (some ⟨w0.heap.size+1+1,0,none⟩),.pointer (some ⟨w0.heap.size,0,none⟩)]) (by simp) (by simp [go_sem]) ?_
 refine (schema_idle _ _ _ _).mono ?_
 rintro e u' w2 ⟨rfl,rfl,rfl⟩
 simp [Leaves,settle,results,Tryz.results59,go_sem,h2,h3,h4,c0,c1,c3,c4]
 exact HP.out
set_option maxHeartbeats 8000000 in
set_option maxRecDepth 100000 in
theorem none_Col {w:World} {r B:Nat} {t1 t2:Tok} {c:List Tok} {vt fv:Value} (h:Rs w r (t1::t2::c) vt) (hB:B<=r) (e1:tk 3 [[40]] (t1::t2::c)=.ok t1 (t2::c)) (e2:isM [41] (t2::c)=true) (e3:tk 3 [[41]] (t2::c)=.ok t2 c) :
 Calls Tryz.prog 126 #[.pointer (some ⟨r,0,none⟩),fv] w fun e w'=>e=.returned (.slice none 0 0)/\Rs w' r c vt/\MT B [213] w w':=by
 have hmk:=mark_rs (B:=B) (Ts:=[213]) h [40] hB (by simp)
 rw[e1] at hmk
 have HMK:=Lib.hid hmk
 have E2:=Lib.hid e2
 have E3:=Lib.hid e3
 clear hmk h e1 e2 e3
 go_enter Tryz.func126,Tryz.ntmps126
 go_wp2_with fail
 refine HMK.out.mono ?_
 rintro e1 w1 ⟨v1,rfl,⟨rfl,hr1⟩,hm⟩
 have HM:=Lib.hid hm
 have HR1:=Lib.hid hr1
 have his:=is_rs hr1 [41]
 rw[E2.out] at his
 have HIS:=Lib.hid his
 clear hm hr1 his
 unfold Tok.v
 go_wp2_with fail
 refine HIS.out.mono ?_
 rintro e2 w2 ⟨rfl,hb2⟩
 have hmk2:=mark_rs (B:=B) (Ts:=[213]) (HR1.out.keep hb2) [41] hB (by simp)
 rw[E3.out] at hmk2
 have HMK2:=Lib.hid hmk2
 have HB2:=Lib.hid hb2
 clear hb2 hmk2
 go_wp2_with fail
 refine HMK2.out.mono ?_
 rintro e3 w3 ⟨v3,rfl,⟨rfl,hr3⟩,hm3⟩
 have M3:=Lib.hid ((HM.out.plusBelow HB2.out).trans hm3)
 have HR3:=Lib.hid hr3
 clear hr3 hm3
 unfold Tok.v
 go_wp2_with fail
 go_ret
 exact⟨rfl,HR3.out,M3.out⟩
set_option maxHeartbeats 8000000 in
set_option maxRecDepth 100000 in
theorem none_Val {w:World} {r B:Nat} {t1 t2:Tok} {c:List Tok} {vt fv:Value} (h:Rs w r (t1::t2::c) vt) (hB:B<=r) (e1:tk 3 [[40]] (t1::t2::c)=.ok t1 (t2::c)) (e2:isM [41] (t2::c)=true) (e3:tk 3 [[41]] (t2::c)=.ok t2 c) :
 Calls Tryz.prog 66 #[.pointer (some ⟨r,0,none⟩),fv] w fun e w'=>e=.returned (.slice none 0 0)/\Rs w' r c vt/\MT B [213] w w':=by
 have hmk:=mark_rs (B:=B) (Ts:=[213]) h [40] hB (by simp)
 rw[e1] at hmk
 have HMK:=Lib.hid hmk
 have E2:=Lib.hid e2
 have E3:=Lib.hid e3
 clear hmk h e1 e2 e3
 go_enter Tryz.func66,Tryz.ntmps66
 go_wp2_with fail
 refine HMK.out.mono ?_
 rintro e1 w1 ⟨v1,rfl,⟨rfl,hr1⟩,hm⟩
 have HM:=Lib.hid hm
 have HR1:=Lib.hid hr1
 have his:=is_rs hr1 [41]
 rw[E2.out] at his
 have HIS:=Lib.hid his
 clear hm hr1 his
 unfold Tok.v
 go_wp2_with fail
 refine HIS.out.mono ?_
 rintro e2 w2 ⟨rfl,hb2⟩
 have hmk2:=mark_rs (B:=B) (Ts:=[213]) (HR1.out.keep hb2) [41] hB (by simp)
 rw[E3.out] at hmk2
 have HMK2:=Lib.hid hmk2
 have HB2:=Lib.hid hb2
 clear hb2 hmk2
 go_wp2_with fail
 refine HMK2.out.mono ?_
 rintro e3 w3 ⟨v3,rfl,⟨rfl,hr3⟩,hm3⟩
 have M3:=Lib.hid ((HM.out.plusBelow HB2.out).trans hm3)
 have HR3:=Lib.hid hr3
 clear hr3 hm3
 unfold Tok.v
 go_wp2_with fail
 go_ret
 exact⟨rfl,HR3.out,M3.out⟩
set_option maxHeartbeats 8000000 in
set_option maxRecDepth 100000 in
theorem sch_P (s:ByteArray) (w:World) (t t1 t2 t3:Tok) (hop:∀ W,Below w.heap.size w W->Calls Tryz.prog 54 #[.string s] W fun e w'=>∃ r vt,e=.returned (.pointer (some ⟨r,0,none⟩))/\W.heap.size<=r/\Rs w' r [t,t1,t2,t3] vt/\Below W.heap.size W w')
 (e0:tk 1 [] [t,t1,t2,t3]=.ok t [t1,t2,t3]) (e1:tk 3 [[40]] [t1,t2,t3]=.ok t1 [t2,t3]) (e2:isM [41] [t2,t3]=true) (e3:tk 3 [[41]] [t2,t3]=.ok t2 [t3]) (e4:tk 0 [] [t3]=.ok t3 [t3]) :
 Calls Tryz.prog 59 #[.string s] w (SPost w (.ok ⟨t.x,[]⟩ [])):=by
 have hmf:∀ (fn:Fn) (first cap:Array Value) (w:World),(Instr.makeFunc fn first cap).run Tryz.prog w=.ok (.func fn first cap) w:=fun _ _ _ _=>rfl
 have hf1:∀ (a b c d e f:Value) (w:World),(Instr.field 122 (.agg #[a,b,c,d,e,f]) 1).run Tryz.prog w=.ok b w:=fun _ _ _ _ _ _ _=>by kernel_rfl
 have hps:=PS.start w
 have ho:=hop _ hps.b
 have HPS:=Lib.hid hps
 have HO:=Lib.hid ho
 have E1:=Lib.hid (And.intro e1 (And.intro e2 e3))
 have E4:=Lib.hid e4
 clear hps ho hop e1 e2 e3 e4
 go_enter_defers Tryz.func59,Tryz.ntmps59
 go_wp2_with fail
 refine HO.out.mono ?_
 rintro e w1 ⟨r,vt,rfl,hr,hrs,hb⟩
 have hp:=HPS.out.keep hb
 have hrB:w.heap.size+3<=r:=by simp at hr;omega
 have hp1:PS w w.heap.size #[.string ⟨#[]⟩,.slice none 0 0] (w1.alloc (.cells #[.pointer (some ⟨r,0,none⟩)] 118)):=hp.keep (balloc (Below.refl _ _) _)
 have hi:InB (w1.alloc (.cells #[.pointer (some ⟨r,0,none⟩)] 118)) w1.heap.size r:=Blk.new _ _ _
 have hr1:=hrs.keep (balloc (Below.refl _ w1) (.cells #[.pointer (some ⟨r,0,none⟩)] 118))
 have hnb:w.heap.size+3<=w1.heap.size:=hp.s
 have htk:=take_rs (B:=w.heap.size+3) (Ts:=[213]) hr1 1 [] _ (tx_nil _) hrB (by simp)
 rw[e0] at htk
 have HP:=Lib.hid hp1
 have HI:=Lib.hid hi
 have HC:=Lib.hid htk
 clear hb hp hrs hp1 hi hr1 hr HPS HO e0 htk
 go_wp2_with fail
 refine HC.out.mono ?_
 rintro e w2 ⟨v2,rfl,⟨rfl,hr2⟩,hm2⟩
 have hp2:=HP.out.mt hm2
 have hi2:InB w2 w1.heap.size r:=Blk.mt HI.out hm2 (by decide)
 have k0:=hp2.q.cell 0
 have y0:=hp2.q.frozen 0
 simp at k0
 have hnlt:=hp2.q.lt
 have hp3:=hp2.store 0 (.string ⟨t.x.toArray⟩)
 simp only[Array.setIfInBounds] at hp3
 have m3:MT 0 [57] w2 (w2.setCell ⟨w.heap.size,0,none⟩ (.string ⟨t.x.toArray⟩)):=MT.setCell (MT.refl w2) hp2.q (by simp) (Nat.zero_le _) _
 have hi3:InB _ w1.heap.size r:=Blk.mt hi2 m3 (by decide)
 have hr3:=hr2.mt m3 (by decide) (by decide)
 have hbs:=blkNewS w2 ⟨w.heap.size,0,none⟩ (.string ⟨t.x.toArray⟩) 215 #[.slice none 0 0]
 have hbk:Below (w2.setCell ⟨w.heap.size,0,none⟩ (.string ⟨t.x.toArray⟩)).heap.size (w2.setCell ⟨w.heap.size,0,none⟩ (.string ⟨t.x.toArray⟩)) ((w2.setCell ⟨w.heap.size,0,none⟩ (.string ⟨t.x.toArray⟩)).alloc (.cells #[.slice none 0 0] 215)):=balloc (Below.refl _ _) _
 have hp4:=hp3.keep hbk
 have hi4:InB _ w1.heap.size r:=Blk.alloc hi3 (.cells #[.slice none 0 0] 215)
 have hr4:=hr3.keep hbk
 have x0:=Blk.cell hi4 0
 have x0l:=Blk.lt hi4
 simp only[List.getElem?_toArray,List.getElem?_cons_zero] at x0
 have k2:=Blk.cell hi2 0
 have k2l:=Blk.lt hi2
 simp only[List.getElem?_toArray,List.getElem?_cons_zero] at k2
 have hne1:w.heap.size≠w1.heap.size:=by omega
 have hne2:w1.heap.size≠w.heap.size:=by omega
 have hw2:w.heap.size+3<=w2.heap.size:=hp2.s
 have hcl:=fun fv=>none_Col (B:=w.heap.size+3) (fv:=fv) hr4 hrB E1.out.1 E1.out.2.1 E1.out.2.2
 have HP4:Hid (PS w w.heap.size #[.string ⟨t.x.toArray⟩,.slice none 0 0] _):=Lib.hid (by simpa using hp4)
 have HI4:=Lib.hid hi4
 have HC:=Lib.hid hcl
 clear hp2 hi2 hr2 hm2 hp3 m3 hi3 hr3 hbs hbk hp4 hi4 hr4 HP HI hcl
 unfold Tok.v
 go_wp2_with fail
 refine (HC.out _).mono ?_
 rintro e w5 ⟨rfl,hr5,hm5⟩
 have hp5:=HP4.out.mt hm5
 have hi5:InB w5 w1.heap.size r:=Blk.mt HI4.out hm5 (by decide)
 have k1:=hp5.q.cell 1
 have y1:=hp5.q.frozen 1
 simp only[List.getElem?_toArray,List.getElem?_cons_zero,List.getElem?_cons_succ] at k1
 have hnlt5:=hp5.q.lt
 have k5:=Blk.cell hi5 0
 have k5l:=Blk.lt hi5
 simp only[List.getElem?_toArray,List.getElem?_cons_zero] at k5
 have hp6:=hp5.store 1 (.slice none 0 0)
 simp only[Array.setIfInBounds] at hp6
 have m6:MT 0 [57] w5 (w5.setCell ⟨w.heap.size,1,none⟩ (.slice none 0 0)):=MT.setCell (MT.refl w5) hp5.q (by simp) (Nat.zero_le _) _
 have hr6:=hr5.mt m6 (by decide) (by decide)
 have htk:=take_rs (B:=w.heap.size+3) (Ts:=[213]) hr6 0 [] _ (tx_nil _) hrB (by simp)
 rw[E4.out] at htk
 have HP6:Hid (PS w w.heap.size #[.string ⟨t.x.toArray⟩,.slice none 0 0] _):=Lib.hid (by simpa using hp6)
 have hw5:w.heap.size+3<=w5.heap.size:=hp5.s
 have HC2:=Lib.hid htk
 clear hp5 hi5 hr5 hm5 hp6 m6 hr6 HC HP4 HI4 hw2 htk
 go_wp2_with fail
 refine HC2.out.mono ?_
 rintro e w7 ⟨v7,rfl,⟨rfl,hr7⟩,hm7⟩
 have hp7:PS w w.heap.size #[.string ⟨t.x.toArray⟩,.slice none 0 0] w7:=by simpa using HP6.out.mt hm7
 have k1:=hp7.q.cell 1
 simp only[List.getElem?_toArray,List.getElem?_cons_zero,List.getElem?_cons_succ] at k1
 have k1l:=hp7.q.lt
 have HP7:=Lib.hid hp7
 have HA:=Lib.hid (again_any w7 (.slice none 0 0) [] (RowAt.nil _ _))
 clear hp7 hr7 hm7 HC2 HP6
 unfold Tok.v
 go_wp2_with fail
 refine HA.out.mono ?_
 rintro e w8 ⟨rfl,hb8⟩
 have hp8:=HP7.out.keep hb8
 have z0:=hp8.q.cell 0
 have z1:=hp8.q.cell 1
 have z3:=hp8.a.cell 0
 have z4:=hp8.e.cell 0
 simp only[List.getElem?_toArray,List.getElem?_cons_zero,List.getElem?_cons_succ] at z0 z1 z3 z4
 have u0:=hp8.q.frozen 0
 have u1:=hp8.q.frozen 1
 have u3:=hp8.a.frozen 0
 have u4:=hp8.e.frozen 0
 have hnl14:=hp8.q.lt
 have hna14:=hp8.a.lt
 have hne14:=hp8.e.lt
 have hfin:=hp8.fin.1
 have hpost:SPost w (.ok ⟨t.x,[]⟩ []) (.returned (.tuple #[.agg #[.string ⟨t.x.toArray⟩,.slice none 0 0],.int .i64 0,.int .i64 0])) _ :=
  ⟨_,rfl,World.ownsRow_nil _ _ _ _,hfin.b⟩
 have HFIN:=Lib.hid hfin
 have HPOST:=Lib.hid hpost
 have hag:againI [] = -1:=rfl
 clear hb8 hp8 hfin hpost
 go_wp2_with fail
 exact sch_exit HFIN.out rfl rfl rfl rfl rfl HPOST.out
set_option maxHeartbeats 16000000 in
set_option maxRecDepth 100000 in
theorem chgClo_P {B n b r ov:Nat} {w:World} {bv:Value} {t u t1 t2:Tok} {c3:List Tok} {vt:Value} {xs:List ChP} (hj:JB B n b r ov w bv xs) (h:Rs w r (t::u::t1::t2::c3) vt) (hBn:B<=n+3) (hB:n+3<=r) (hw:n+3<=w.heap.size) (hov:n+3<=ov) (hlen:xs.length<200)
 (e0:tk 3 sgnX (t::u::t1::t2::c3)=.ok t (u::t1::t2::c3)) (e1:tk 1 [] (u::t1::t2::c3)=.ok u (t1::t2::c3)) (e2:tk 3 [[40]] (t1::t2::c3)=.ok t1 (t2::c3)) (e3:isM [41] (t2::c3)=true) (e4:tk 3 [[41]] (t2::c3)=.ok t2 c3) :
 Calls Tryz.prog 143 #[.pointer (some ⟨b,0,none⟩),.pointer (some ⟨n,0,none⟩),.pointer (some ⟨ov,0,none⟩)] w (CPost B n b r ov vt w bv xs (.ok (chgOf t u []) c3)):=by
 obtain⟨ic,hic,hc0,hc1,hc2⟩:=info_parts Tryz.infoChg
 have hmf:∀ (fn:Fn) (first cap:Array Value) (w:World),(Instr.makeFunc fn first cap).run Tryz.prog w=.ok (.func fn first cap) w:=fun _ _ _ _=>rfl
 have hf1:∀ (a b c d e f:Value) (w:World),(Instr.field 122 (.agg #[a,b,c,d,e,f]) 1).run Tryz.prog w=.ok b w:=fun _ _ _ _ _ _ _=>by kernel_rfl
 obtain⟨hi,hob,hnb,rows,hown,hall⟩:=hj
 rw[List.length_map] at hown
 obtain⟨ba,bc,rfl⟩:=own_sl hown
 have hb0:Below w.heap.size w ((w.alloc (.cells #[.bool false,.string ⟨#[]⟩,.slice none 0 0] 68)).alloc (.cells #[.string ⟨#[43]⟩,.string ⟨#[45]⟩] 9)):=balloc (balloc (Below.refl _ _) _) _
 have htk:=take_rs (B:=n+3) (Ts:=[213]) (h.keep hb0) 3 sgnX _ (sgn_tx w _) hB (by simp)
 have zb:=(Blk.new w 68 #[.bool false,.string ⟨#[]⟩,.slice none 0 0]).alloc (.cells #[.string ⟨#[43]⟩,.string ⟨#[45]⟩] 9)
 have x0:=Blk.cell hi 0
 have hbl:=Blk.lt hi
 have hol:=hob.lt
 have hnl:=hnb.lt
 simp at x0
 have HI:=Lib.hid hi
 have HOB:=Lib.hid hob
 have HNB:=Lib.hid hnb
 have HOWN:=Lib.hid hown
 have HALL:=Lib.hid hall
 have HLT:=Lib.hid (fun k hk=>(World.ownsRow.lt hown k hk).2)
 have HB0:=Lib.hid hb0
 have ZB:=Lib.hid zb
 obtain⟨L,hL⟩:∃ L,xs.length=L:=⟨_,rfl⟩
 rw[hL] at HNB HOWN HLT hlen ⊢
 have HL:=Lib.hid hL
 clear h hb0 zb hi hob hnb hown hall hL
 have E1:=Lib.hid e1
 have E2:=Lib.hid (And.intro e2 (And.intro e3 e4))
 rw[e0] at htk
 have HTK:=Lib.hid htk
 clear htk e0 e1 e2 e3 e4
 go_enter Tryz.func143,Tryz.ntmps143
 go_wp2_with fail
 refine HTK.out.mono ?_
 rintro e w1 ⟨v,rfl,⟨rfl,hr1⟩,hm1⟩
 have m1:MT (n+3) [213] w w1:=(MT.ofBelow HB0.out).trans hm1
 have hob1:=HOB.out.mt m1 (by decide)
 have hnb1:=HNB.out.mt m1 (by decide)
 have o0:=hob1.cell 0
 have of0:=hob1.frozen 0
 have n0:=hnb1.cell 0
 have hol1:=hob1.lt
 have hnl1:=hnb1.lt
 simp only[List.getElem?_toArray,List.getElem?_cons_zero] at o0 n0
 have HI1:=Lib.hid (show InB w1 b r from Blk.mt HI.out m1 (by decide))
 have HOB1:=Lib.hid hob1
 have HNB1:=Lib.hid hnb1
 have HOWN1:=Lib.hid (m1.ownsRow HOWN.out (by decide))
 have HALL1:=Lib.hid (HALL.out.mono fun q a hh=>hh.mt m1 (by decide))
 have HZ1:=Lib.hid (ZB.out.mt hm1 (by decide))
 have HR1:=Lib.hid hr1
 have HM1:=Lib.hid m1
 have hzl1:=HZ1.out.lt
 clear m1 hob1 hnb1 hr1 hm1 HTK HI HOB HNB HOWN HALL ZB HB0
 unfold Tok.v
 have hL:L≠256:=by omega
 have hLd:((L:Int) == 256)=false:=by simpa using fun e=>hL (by omega)
 have hsn:overP (xs++[chgOf t t []])=overP xs:=by rw[overB_snoc,HL.out,if_neg hL]
 have bk:=balloc (Below.refl _ w1) (.cells #[.int .i64 t.k,.string ⟨t.x.toArray⟩,.int .i64 t.vk,.int .i64 t.vn,.string ⟨t.vt.toArray⟩,.int .i64 t.p] 122)
 have ob:=HOB1.out.alloc (.cells #[.int .i64 t.k,.string ⟨t.x.toArray⟩,.int .i64 t.vk,.int .i64 t.vn,.string ⟨t.vt.toArray⟩,.int .i64 t.p] 122)
 rw[<-hsn] at ob
 have HOBX:=Lib.hid ob
 have HTA:=Lib.hid (Blk.new w1 122 #[.int .i64 t.k,.string ⟨t.x.toArray⟩,.int .i64 t.vk,.int .i64 t.vn,.string ⟨t.vt.toArray⟩,.int .i64 t.p])
 have ms:MT (n+3) [3] w1 (w1.alloc (.cells #[.int .i64 t.k,.string ⟨t.x.toArray⟩,.int .i64 t.vk,.int .i64 t.vn,.string ⟨t.vt.toArray⟩,.int .i64 t.p] 122)):=MT.ofBelow bk
 obtain⟨wx,hwx⟩:∃ wx,w1.alloc (.cells #[.int .i64 t.k,.string ⟨t.x.toArray⟩,.int .i64 t.vk,.int .i64 t.vn,.string ⟨t.vt.toArray⟩,.int .i64 t.p] 122)=wx:=⟨_,rfl⟩
 rw[hwx] at ms HOBX HTA
 have HMS:=Lib.hid ms
 have HWX:=Lib.hid hwx
 clear bk ob ms hwx hsn
 go_wp2_with fail
 rw[HWX.out]
 have hix:InB wx b r:=Blk.mt HI1.out HMS.out (by decide)
 have x0:=Blk.cell hix 0
 have xl:=Blk.lt hix
 have d1:=HTA.out.cell 1
 have dl:=HTA.out.lt
 simp only[List.getElem?_toArray,List.getElem?_cons_zero,List.getElem?_cons_succ] at x0 d1
 have HIX:=Lib.hid hix
 have HNX:=Lib.hid (HNB1.out.mt HMS.out (by decide))
 have HOX:=Lib.hid (HMS.out.ownsRow HOWN1.out (by decide))
 have HAX:=Lib.hid (HALL1.out.mono fun q a hh=>hh.mt HMS.out (by decide))
 have HZX:=Lib.hid (HZ1.out.mt HMS.out (by decide))
 have HRX:=Lib.hid (HR1.out.mt HMS.out (by decide) (by decide))
 have HMX:=Lib.hid ((HM1.out.wide (Ts':=[213,3]) (by simp)).trans (HMS.out.wide (by simp)))
 have hwx1:=HMX.out.size
 have HMX1:=Lib.hid hwx1
 have HDL:=Lib.hid dl
 have HZL:=Lib.hid hzl1
 obtain⟨sb,hsb⟩:∃ sb,(t.x == [43])=sb:=⟨_,rfl⟩
 have HSB:=Lib.hid hsb
 have htk:=fun W hW=>take_rs (B:=n+3) (Ts:=[213]) (HRX.out.keep (w':=W) hW) 1 [] _ (tx_nil _) hB (by simp)
 clear hix o0 of0 n0 hol1 hnl1 HI1 HOB1 HNB1 HOWN1 HALL1 HZ1 HR1 HM1 HMS HRX HWX
 rw[E1.out] at htk
 have HTK:=Lib.hid htk
 clear htk
 go_cut [5] from 18 to 24 (fun s5 wy=>∃ y,s5=.pointer (some ⟨y,0,none⟩)/\Hid (Blk wy y 68 #[.bool sb,.string ⟨u.x.toArray⟩,.slice none 0 0])/\Hid (Rs wy r (t1::t2::c3) vt)/\Hid (MT (n+3) [213] wx wy)/\wx.heap.size<=y)
 case first =>
  go_region_law (first
   | (go_simp;go_at_call 57;refine (HTK.out _ (bdrew (balloc (Below.refl _ _) (.cells #[.bool false,.string ⟨#[]⟩,.slice none 0 0] 68)))).mono ?_;rintro e w5 ⟨v5,rfl,⟨rfl,hr5⟩,hm5⟩;have m5:MT (n+3) [213] wx w5:=MT.trans (MT.ofBelow (bdrew (balloc (Below.refl _ _) (.cells #[.bool false,.string ⟨#[]⟩,.slice none 0 0] 68)))) hm5;have yb:=(Blk.new wx 68 #[.bool false,.string ⟨#[]⟩,.slice none 0 0]).drew.mt hm5 (by decide);have y0:=yb.cell 0;have y1:=yb.cell 1;have y2:=yb.cell 2;have g0:=yb.frozen 0;have g1:=yb.frozen 1;have g2:=yb.frozen 2;have yl:=yb.lt;have ta5:=HTA.out.mt m5 (by decide);have d15:=ta5.cell 1;have dl5:=ta5.lt;simp only[List.getElem?_toArray,List.getElem?_cons_zero,List.getElem?_cons_succ] at y0 y1 y2 d15;have HYB:=Lib.hid yb;have HR5:=Lib.hid hr5;have HM5:=Lib.hid m5;unfold Tok.v;clear yb ta5 hr5 hm5 m5)
   | (go_simp;go_at_call 57;refine (HTK.out _ (bdrew (Below.refl _ _))).mono ?_;rintro e w5 ⟨v5,rfl,⟨rfl,hr5⟩,hm5⟩;have m5:MT (n+3) [213] wx w5:=MT.trans (MT.ofBelow (bdrew (Below.refl _ _))) hm5;have ta5:=HTA.out.mt m5 (by decide);have d15:=ta5.cell 1;have dl5:=ta5.lt;simp only[List.getElem?_toArray,List.getElem?_cons_zero,List.getElem?_cons_succ] at d15;have HR5:=Lib.hid hr5;have HM5:=Lib.hid m5;unfold Tok.v;clear ta5 hr5 hm5 m5))
  all_goals
   go_wp2_with fail
   go_meet
   first
    | (have hs3:=set3_facts (a:=.bool sb) (b:=.string ⟨u.x.toArray⟩) (c:=.slice none 0 0) HYB.out
       exact⟨_,rfl,Lib.hid hs3.1,Lib.hid (HR5.out.mt hs3.2.1 (by decide) (by decide)),Lib.hid (HM5.out.own (((Mod.refl (fun k=>k=wx.heap.size) w5).setCell (p:=⟨wx.heap.size,0,none⟩) (fun _=>rfl) _ |>.setCell (p:=⟨wx.heap.size,1,none⟩) (fun _=>rfl) _).setCell (p:=⟨wx.heap.size,2,none⟩) (fun _=>rfl) _) (Nat.le_refl _)),Nat.le_refl _⟩)
    | exact⟨_,rfl,Lib.hid (Blk.new _ _ _),Lib.hid (HR5.out.keep (balloc (Below.refl _ _) _)),Lib.hid (HM5.out.alloc _),HM5.out.size⟩
 case rest =>
  obtain⟨y,rfl,HY,HRY,HMY,hy⟩:=hcut
  have hiy:InB wc b r:=Blk.mt HIX.out HMY.out (by decide)
  have x0y:=Blk.cell hiy 0
  have xly:=Blk.lt hiy
  simp only[List.getElem?_toArray,List.getElem?_cons_zero] at x0y
  have hwy1:=HMY.out.size
  have hvs:=fun fv=>none_Val (B:=n+3) (fv:=fv) HRY.out hB E2.out.1 E2.out.2.1 E2.out.2.2
  have HIY:=Lib.hid hiy
  have HOBY:=Lib.hid (HOBX.out.mt HMY.out (by decide))
  have HNY:=Lib.hid (HNX.out.mt HMY.out (by decide))
  have HOY:=Lib.hid (HMY.out.ownsRow HOX.out (by decide))
  have HAY:=Lib.hid (HAX.out.mono fun q a hh=>hh.mt HMY.out (by decide))
  have HZY:=Lib.hid (HZX.out.mt HMY.out (by decide))
  have HMW:=Lib.hid (HMX.out.trans (HMY.out.wide (by simp)))
  have hyl0:=HY.out.lt
  clear hiy x0 xl d1 dl HIX HOBX HNX HOX HAX HZX HMX HTA HRY HMY HTK
  have HVS:=Lib.hid hvs
  clear hvs
  go_wp2_with fail
  refine (HVS.out _).mono ?_
  rintro e w7 ⟨rfl,hr7,hm7⟩
  have hi7:InB w7 b r:=Blk.mt HIY.out hm7 (by decide)
  have yb7:=HY.out.mt hm7 (by decide)
  have y2:=yb7.cell 2
  have g2:=yb7.frozen 2
  have yl:=yb7.lt
  have hs7:=hm7.size
  have hny:n≠y:=by omega
  have hny':y≠n:=by omega
  have nb7:=HNY.out.mt hm7 (by decide)
  have n0:=nb7.cell 0
  have nl:=nb7.lt
  simp only[List.getElem?_toArray,List.getElem?_cons_zero,List.getElem?_cons_succ] at y2 n0
  have yb8:=yb7.set_ 2 (.slice none 0 0)
  simp only[Array.setIfInBounds] at yb8
  have m8:MT 0 [68] w7 (w7.setCell ⟨y,2,none⟩ (.slice none 0 0)):=MT.setCell (MT.refl w7) yb7 (by simp) (Nat.zero_le _) _
  have hmo:Mod (fun k=>k=y) w7 (w7.setCell ⟨y,2,none⟩ (.slice none 0 0)):=(Mod.refl (fun k=>k=y) w7).setCell (p:=⟨y,2,none⟩) (fun _=>rfl) _
  have M8:=Lib.hid (show MT (n+3) [213,3] w (w7.setCell ⟨y,2,none⟩ (.slice none 0 0)) from (HMW.out.trans (hm7.wide (by simp))).own hmo (by have:=HMX1.out;omega))
  have hyx:w.heap.size<y:=by have:=HDL.out;have:=HZL.out;omega
  have ho8:=hmo.ownsRow (hm7.ownsRow HOY.out (by decide)) (fun k hk=>by have:=HLT.out k hk;omega)
  have HO8:=Lib.hid ho8
  have HY8:Hid (Blk (w7.setCell ⟨y,2,none⟩ (.slice none 0 0)) y 68 #[.bool sb,.string ⟨u.x.toArray⟩,.slice none 0 0]):=Lib.hid (by simpa using yb8)
  have y0:=yb7.cell 0
  have y1:=yb7.cell 1
  simp only[List.getElem?_toArray,List.getElem?_cons_zero,List.getElem?_cons_succ] at y0 y1
  have HI8:=Lib.hid (show InB _ b r from Blk.mt hi7 m8 (by decide))
  have HR8:=Lib.hid (hr7.mt m8 (by decide) (by decide))
  have HOB8:=Lib.hid ((HOBY.out.mt hm7 (by decide)).mt m8 (by decide))
  have HN8:=Lib.hid (nb7.mt m8 (by decide))
  have HA8:=Lib.hid (HAY.out.mono fun q a hh=>(hh.mt hm7 (by decide)).mt m8 (by decide))
  have HZ8:=Lib.hid ((HZY.out.mt hm7 (by decide)).far (p:=⟨y,2,none⟩) (show w.heap.size≠y by omega) (.slice none 0 0))
  have hsz7:w.heap.size<=w7.heap.size:=by omega
  clear hi7 hr7 hm7 yb7 nb7 yb8 m8 hmo ho8 HY HIY HOBY HNY HOY HAY HZY HVS
  go_wp2_with (at_builtin;refine wpList_append_lies _ rfl (.tmp 29) (.tmp 31) 53 rfl B 68 ic (.agg #[.bool false,.string ⟨#[]⟩,.slice none 0 0]) 3 48 Tryz.underlying53 hic hc0 hc1 hc2 rfl (by decide) (.slice ba L bc) L _ rfl (HO8.out.alloc _) ⟨_,0,none⟩ 1 1 [.bool sb,.string ⟨u.x.toArray⟩,.slice none 0 0] rfl rfl (World.news_of_block (blkNewS _ _ _ _ _)) (by simp [Value.oneCell']) (by decide) ?c3 ?c5 ?c4 _ rfl ?_)
  case c3=>unfold maxLen;omega
  case c5=>omega
  case c4=>simp;omega
  intro g cap1 w9 hown9 hgrow9 hat9 hlt9
  have hyo:(Value.slice ba L bc).ownBlock≠some y:=fun e=>by have:=HLT.out _ e;omega
  have hzo:(Value.slice ba L bc).ownBlock≠some w.heap.size:=fun e=>by have:=HLT.out _ e;omega
  have m9:MT 0 [68] _ w9:=((MT.refl _).alloc _).grown hgrow9 (HO8.out.alloc _) (by simp) (Nat.zero_le _)
  have yb9:=(HY8.out.alloc _).grown hgrow9 (fun e=>hyo e.symm)
  have zb9:=(HZ8.out.alloc _).grown hgrow9 (fun e=>hzo e.symm)
  have nb9:=HN8.out.mt m9 (by decide)
  have n0:=nb9.cell 0
  have nf:=nb9.frozen 0
  have nl:=nb9.lt
  have y0:=yb9.cell 0
  have y1:=yb9.cell 1
  have y2:=yb9.cell 2
  have yl:=yb9.lt
  simp only[List.getElem?_toArray,List.getElem?_cons_zero,List.getElem?_cons_succ] at n0 y0 y1 y2
  have m10:MT 0 [53] w9 (w9.setCell ⟨n,0,none⟩ (.slice (some ⟨g,0,none⟩) (L+1) cap1)):=MT.setCell (MT.refl w9) nb9 (by simp) (Nat.zero_le _) _
  have zb10:=zb9.far (p:=⟨n,0,none⟩) (show w.heap.size≠n by omega) (.slice (some ⟨g,0,none⟩) (L+1) cap1)
  have nb10:=nb9.set_ 0 (.slice (some ⟨g,0,none⟩) (L+1) cap1)
  simp only[Array.setIfInBounds] at nb10
  have HN10:Hid (Blk _ n 53 #[.slice (some ⟨g,0,none⟩) (L+1) cap1]):=Lib.hid (by simpa using nb10)
  have HZ10:=Lib.hid zb10
  have HO10:=Lib.hid (m10.ownsRow hown9 (by decide))
  have mm:MT 0 [68,53] _ (w9.setCell ⟨n,0,none⟩ (.slice (some ⟨g,0,none⟩) (L+1) cap1)):=(m9.wide (by simp)).trans (m10.wide (by simp))
  have HMF:Hid (Mod (F1 n w (.slice ba L bc)) w (w9.setCell ⟨n,0,none⟩ (.slice (some ⟨g,0,none⟩) (L+1) cap1))):=Lib.hid ((((Mod.mono (G:=F1 n w (.slice ba L bc)) M8.out (fun i _ h=>.inr (.inl h))).alloc _).grown hgrow9 (fun k hk _=>.inr (.inr hk))).setCell (p:=⟨n,0,none⟩) (fun _=>.inl rfl) _)
  have hgz:g≠w.heap.size/\((Value.slice ba L bc).ownBlock=some g∨w.heap.size<=g):=by
   rcases hat9 with h9 | h9
   ·exact⟨fun e=>hzo (e ▸ h9),.inl h9⟩
   ·have:g=w7.heap.size+1:=by first | exact h9 | (rw[h9])
    exact⟨by omega,.inr (by omega)⟩
  have HGZ:=Lib.hid hgz
  have HMM:=Lib.hid mm
  clear hown9 hgrow9 hat9 hlt9 hyo hzo m9 yb9 zb9 nb9 m10 zb10 nb10 mm hgz
  go_wp2_with (refine wpList_store_blk rfl 68 _ _ rfl w.heap.size 68 _ _ rfl rfl HZ10.out (by kernel_rfl) rfl (by simp [Value.oneCell']) ?_)
  intro w11 hb11 hm11 hz11
  have r0:=hb11.cell 0
  have r1:=hb11.cell 1
  have r2:=hb11.cell 2
  simp only[List.getElem?_toArray,List.getElem?_cons_zero,List.getElem?_cons_succ] at r0 r1 r2
  have m11:MT 0 [68] _ w11:=MT.ofMod hm11 HZ10.out (by simp) (Nat.zero_le _)
  have mall:=HMM.out.trans (m11.wide (Ts':=[68,53]) (by simp))
  have hsd:sb=decide (t.x=[43]):=by
   rw[<-HSB.out,Bool.eq_iff_iff]
   simp
  have hfin:CPost B n b r ov vt w (.slice ba L bc) xs (.ok (chgOf t u []) c3) (.returned (.agg #[.bool sb,.string ⟨u.x.toArray⟩,.slice none 0 0])) w11:=by
   refine⟨.slice (some ⟨g,0,none⟩) (L+1) cap1,.slice none 0 0,by rw[hsd];rfl,rfl,⟨Blk.mt HI8.out mall (by decide),?_,HN10.out.mod hm11 (fun e=>by omega),?_⟩,HR8.out.mt mall (by decide) (by decide),HMF.out.trans hm11 (fun i hi e=>by omega),?_⟩
   ·rw[show overP (xs++[chgOf t u []])=overP (xs++[chgOf t t []]) from overB_same rfl]
    exact HOB8.out.mt mall (by decide)
   ·rw[List.map_append]
    refine chgs_snoc (x:=(chgOf t u []).1) (rv:=.slice none 0 0) (by rw[List.length_map,HL.out]) ?_ (HA8.out.mono fun q a hh=>hh.mt mall (by decide)) ?_
    ·have:=hm11.ownsRow HO10.out (fun k hk=>by simp [Value.ownBlock] at hk;subst hk;exact HGZ.out.1)
     rw[hsd] at this
     exact this
    ·exact World.ownsRow_nil _ _ _ _
   ·intro k hk
    simp [Value.ownBlock] at hk
    subst hk
    exact HGZ.out.2
  have HFIN:=Lib.hid hfin
  clear hb11 hm11 hz11 m11 mall hfin
  go_wp2_with fail
  exact bodyPost_ret (v:=.agg #[.bool sb,.string ⟨u.x.toArray⟩,.slice none 0 0]) (by simp [results,Tryz.results143,go_sem, *]) rfl HFIN.out
set_option maxHeartbeats 16000000 in
set_option maxRecDepth 100000 in
theorem some_P {n b r ov:Nat} {w:World} {bv:Value} {t u t1 t2:Tok} {c3:List Tok} {vt:Value} (hj:JB (n+3) n b r ov w bv []) (hc:Rs w r (t::u::t1::t2::c3) vt) (hB:n+3<=r) (hw:n+3<=w.heap.size) (hov:n+3<=ov)
 (e0:tk 3 sgnX (t::u::t1::t2::c3)=.ok t (u::t1::t2::c3)) (e1:tk 1 [] (u::t1::t2::c3)=.ok u (t1::t2::c3)) (e2:tk 3 [[40]] (t1::t2::c3)=.ok t1 (t2::c3)) (e3:isM [41] (t2::c3)=true) (e4:tk 3 [[41]] (t2::c3)=.ok t2 c3) (e5:isM [44] c3=false) :
 Calls Tryz.prog 145 #[.pointer (some ⟨r,0,none⟩),.func (.func 143) #[] #[.pointer (some ⟨b,0,none⟩),.pointer (some ⟨n,0,none⟩),.pointer (some ⟨ov,0,none⟩)]] w fun e w'=>∃ v bv',e=.returned v/\JB (n+3) n b r ov w' bv' [chgOf t u []]/\Rs w' r c3 vt/\Mod (FB n) w w':=by
 have hone0:=chgClo_P hj hc (Nat.le_refl _) hB hw hov (by simp) e0 e1 e2 e3 e4
 have HJ0:=Lib.hid hj
 have HO:=Lib.hid hone0
 have E5:=Lib.hid e5
 clear hj hc hone0 e0 e1 e2 e3 e4 e5
 obtain⟨x,hx⟩:∃ x,chgOf t u []=x:=⟨_,rfl⟩
 rw[hx] at HO ⊢
 clear hx
 go_enter Tryz.func145,Tryz.ntmps145
 go_wp2_with fail
 refine HO.out.mono ?_
 rintro e' w1 ⟨bv1,rv,rfl,hrv,hj1,hr1,hm,hown1⟩
 have hsz1:=hm.size
 have bk:Below w1.heap.size w1 (w1.alloc (.cells #[.bool x.1.add,.string ⟨x.1.rel.toArray⟩,rv] 68)):=balloc (Below.refl _ _) _
 have HJ1:=Lib.hid (show JB (n+3) n b r ov _ bv1 [x] from hj1.keep bk)
 have HR1:=Lib.hid (hr1.keep bk)
 have HM1:=Lib.hid ((Mod.mono hm (fun i _ h=>f1_fb HJ0.out i h)).alloc (.cells #[.bool x.1.add,.string ⟨x.1.rel.toArray⟩,rv] 68))
 clear hrv hj1 hr1 hm hown1 bk HO
 go_wp2_with fail
 go_loopw [5] (fun v wr=>v=.slice (some ⟨w1.heap.size,0,none⟩) 1 1/\Hid (JB (n+3) n b r ov wr bv1 [x])/\Hid (Rs wr r c3 vt)/\Hid (Mod (FB n) w wr)) (fun v _=>0)
 case atStart=>exact⟨rfl,HJ1,HR1,HM1⟩
 case round =>
  obtain⟨rfl,JW,RW,MW⟩:=hrel
  have HIS:=Lib.hid (is_rs RW.out [44])
  rw[E5.out] at HIS
  go_wp2_with fail
  refine HIS.out.mono ?_
  rintro e2 w2 ⟨rfl,hb2⟩
  have HB2:=Lib.hid hb2
  clear hb2
  go_wp2_with fail
  go_ret
  exact⟨_,bv1,rfl,JW.out.keep HB2.out,RW.out.keep HB2.out,MW.out.trans (Mod.ofBelow (F:=FB n) HB2.out) (fun i _ h=>h)⟩
set_option maxHeartbeats 8000000 in
set_option maxRecDepth 100000 in
theorem batch_P (s:ByteArray) (w:World) (t u t1 t2 t3:Tok) (hop:∀ W,Below w.heap.size w W->Calls Tryz.prog 54 #[.string s] W fun e w'=>∃ r vt,e=.returned (.pointer (some ⟨r,0,none⟩))/\W.heap.size<=r/\Rs w' r [t,u,t1,t2,t3] vt/\Below W.heap.size W w') (ht:t.k≠0)
 (e0:tk 3 sgnX [t,u,t1,t2,t3]=.ok t [u,t1,t2,t3]) (e1:tk 1 [] [u,t1,t2,t3]=.ok u [t1,t2,t3]) (e2:tk 3 [[40]] [t1,t2,t3]=.ok t1 [t2,t3]) (e3:isM [41] [t2,t3]=true) (e4:tk 3 [[41]] [t2,t3]=.ok t2 [t3]) (e5:isM [44] [t3]=false) (e6:tk 0 [] [t3]=.ok t3 [t3]) :
 Calls Tryz.prog 63 #[.string s] w (BPost w (.ok [(chgOf t u []).1] [])):=by
 have hmf:∀ (fn:Fn) (first cap:Array Value) (w:World),(Instr.makeFunc fn first cap).run Tryz.prog w=.ok (.func fn first cap) w:=fun _ _ _ _=>rfl
 have hf0:∀ (a b c d e f:Value) (w:World),(Instr.field 122 (.agg #[a,b,c,d,e,f]) 0).run Tryz.prog w=.ok a w:=fun _ _ _ _ _ _ _=>by kernel_rfl
 have hps:=PB.start w
 have ho:=hop _ hps.b
 have HPS:=Lib.hid hps
 have HO:=Lib.hid ho
 clear hps ho hop
 go_enter_defers Tryz.func63,Tryz.ntmps63
 go_wp2_with fail
 refine HO.out.mono ?_
 rintro e w1 ⟨r,vt,rfl,hr,hrs,hb⟩
 have hp:=HPS.out.keep hb
 have hrB:w.heap.size+3<=r:=by simp at hr;omega
 have bk:Below w1.heap.size w1 ((w1.alloc (.cells #[.pointer (some ⟨r,0,none⟩)] 118)).alloc (.cells #[.int .i64 (-1)] 3)):=balloc (balloc (Below.refl _ _) _) _
 have hp1:=hp.keep bk
 have hi:InB ((w1.alloc (.cells #[.pointer (some ⟨r,0,none⟩)] 118)).alloc (.cells #[.int .i64 (-1)] 3)) w1.heap.size r:=(Blk.new _ _ _).alloc _
 have hob:=blkNew1 w1 (.cells #[.pointer (some ⟨r,0,none⟩)] 118) 3 #[.int .i64 (-1)]
 have hjb:JB (w.heap.size+3) w.heap.size w1.heap.size r (w1.heap.size+1) ((w1.alloc (.cells #[.pointer (some ⟨r,0,none⟩)] 118)).alloc (.cells #[.int .i64 (-1)] 3)) (.slice none 0 0) [] :=
  ⟨hi,hob,hp1.q,[],World.ownsRow_nil _ _ _ _,trivial⟩
 have hr1:=hrs.keep bk
 have hnb:w.heap.size+3<=w1.heap.size:=hp.s
 have HPK:=Lib.hid (peek_rs hr1)
 have HP1:=Lib.hid hp1
 have HJ1:=Lib.hid hjb
 have HR1:=Lib.hid hr1
 have hib:=Blk.lt hi
 have hobl:=hob.lt
 have x0:=Blk.cell hi 0
 have o0:=hob.cell 0
 simp only[List.getElem?_toArray,List.getElem?_cons_zero] at x0 o0
 have htk0:(t.k != 0)=true:=by simpa using ht
 have E6:=Lib.hid e6
 have EE:=Lib.hid (And.intro e0 (And.intro e1 (And.intro e2 (And.intro e3 (And.intro e4 e5)))))
 clear hb hp hr hrs bk hp1 hi hob hjb hr1 HPS HO e0 e1 e2 e3 e4 e5 e6 ht
 obtain⟨W2,hW2⟩:∃ W2,(w1.alloc (.cells #[.pointer (some ⟨r,0,none⟩)] 118)).alloc (.cells #[.int .i64 (-1)] 3)=W2:=⟨_,rfl⟩
 rw[hW2] at HPK HP1 HJ1 HR1 x0 o0 hib hobl
 have HW2:=Lib.hid hW2
 clear hW2
 go_wp2_with fail
 rw[HW2.out]
 refine HPK.out.mono ?_
 rintro e w2 ⟨rfl,hb3⟩
 have hj2:=HJ1.out.keep hb3
 have x02:=Blk.cell hj2.1 0
 have xl2:=Blk.lt hj2.1
 simp only[List.getElem?_toArray,List.getElem?_cons_zero] at x02
 have HP2:=Lib.hid (HP1.out.keep hb3)
 have hsm:=some_P hj2 (HR1.out.keep hb3) hrB HP2.out.s (by omega) EE.out.1 EE.out.2.1 EE.out.2.2.1 EE.out.2.2.2.1 EE.out.2.2.2.2.1 EE.out.2.2.2.2.2
 have HSM:=Lib.hid hsm
 clear hb3 HPK HP1 HJ1 HR1 hj2 hsm EE
 unfold Tok.v
 go_wp2_with fail
 refine HSM.out.mono ?_
 rintro e w3 ⟨v3,bv',rfl,hj3,hr3,hm3⟩
 have htk:=take_rs (B:=w.heap.size+3) (Ts:=[213]) hr3 0 [] _ (tx_nil _) hrB (by simp)
 rw[E6.out] at htk
 have HTK:=Lib.hid htk
 have HP3:=Lib.hid (HP2.out.mod hm3 (fun k h=>h) hj3.2.2.1)
 have x03:=Blk.cell hj3.1 0
 have xl3:=Blk.lt hj3.1
 simp only[List.getElem?_toArray,List.getElem?_cons_zero] at x03
 obtain⟨_,hob3,_,hown3⟩:=hj3
 have hbv:∃ ba bc,bv'=.slice ba 1 bc:=by
  obtain⟨brows,bown,_⟩:=hown3
  exact own_sl bown
 obtain⟨ba,bc,rfl⟩:=hbv
 have HOB3:=Lib.hid hob3
 have HOW3:=Lib.hid hown3
 clear hr3 hm3 htk hob3 hown3 HSM HP2
 go_wp2_with fail
 refine HTK.out.mono ?_
 rintro e w5 ⟨v5,rfl,⟨rfl,hr5⟩,hm5⟩
 have hob5:=HOB3.out.mt hm5 (by decide)
 have o0:=hob5.cell 0
 have ol:=hob5.lt
 rw[show overP [chgOf t u []] = -1 from overB_few (by simp)] at o0
 simp only[List.getElem?_toArray,List.getElem?_cons_zero] at o0
 have HOW5:=Lib.hid (HOW3.out.mt hm5 (by decide) (by decide))
 have HP5:=Lib.hid (HP3.out.mt hm5)
 clear hr5 hm5 hob5 HTK HOB3 HOW3 HP3 x03 xl3
 unfold Tok.v
 have z0:=HP5.out.q.cell 0
 have z3:=HP5.out.a.cell 0
 have z4:=HP5.out.e.cell 0
 simp only[List.getElem?_toArray,List.getElem?_cons_zero] at z0 z3 z4
 have u0:=HP5.out.q.frozen 0
 have u3:=HP5.out.a.frozen 0
 have u4:=HP5.out.e.frozen 0
 have hnl14:=HP5.out.q.lt
 have hna14:=HP5.out.a.lt
 have hne14:=HP5.out.e.lt
 obtain⟨hfin,mfin⟩:=HP5.out.fin
 have hpost:BPost w (.ok [(chgOf t u []).1] []) (.returned (.tuple #[.slice ba 1 bc,.int .i64 0,.int .i64 0])) _:=⟨_,rfl,(HOW5.out.mt mfin (by decide) (by decide)).low (by omega),hfin.b⟩
 have HFIN:=Lib.hid hfin
 have HPOST:=Lib.hid hpost
 clear hfin mfin hpost
 go_wp2_with fail
 exact batch_exit HFIN.out rfl rfl rfl rfl HPOST.out
end Go.Proofs.YtgopfpjinohncaaGreatDoor
