/- change.Parse's deferred closure, walked; its named results; its doors. A command, plainly: what a line says, what a command's text is. command's words. command.Parse's deferred closure, walked; its named results; its doors (printed by mkcd0.py). osierref09.Texts, Copy, walked. change.Parse's closure: one change, read. reader.Some at api.Change, walked: its slice and the closure's batch lie apart. -/
import Derived.Test.YtgopfpjinohncaaGreatDoorGaL
import Derived.Test.YtgopfpjinohncaaGreatDoorJyL
import Derived.Test.YtgopfpjinohncaaGreatDoorKaL
import Derived.Test.YtgopfpjinohncaaGreatDoorLcL
import Derived.Test.YtgopfpjinohncaaGreatDoorShelfZL
import Derived.Test.YtgopfpjinohncaaGreatDoorGcL
import Derived.Test.YtgopfpjinohncaaGreatDoorGmL
import Derived.Test.YtgopfpjinohncaaGreatDoorGnL
import Derived.Defers
import Derived.Recover
import Derived.Deep.RegionLaw
import Derived.BigQuiet
import Derived.Deep.Cut
import Derived.Deep.CutRange
import Derived.RegionDies
namespace Go.Proofs.YtgopfpjinohncaaGreatDoor
open Go.RowKit
set_option linter.unusedVariables false
set_option maxHeartbeats 2000000 in
set_option maxRecDepth 100000 in
theorem batch_idle (p q r:Addr) (w:World) :
 CallsD Tryz.prog 142 #[.pointer (some p),.pointer (some q),.pointer (some r)] .returning w fun e u' w'=>e=.returned (.tuple #[])/\u'=.returning/\w'=w:=by
 have hc:=caught_nil p q w
 refine callsD_of_wpS Tryz.func142 rfl fun c₀ cs hu=>?_
 apply wpS_seq
 apply wpS_region
 simp [wpOpsS,go_sem,recoverD,hu,Tryz.ntmps142,Exit.thenS]
 refine hc.mono ?_
 rintro e w1 ⟨rfl,rfl⟩
 refine wpS_cond (t:=false) (by simp [Act.eval,Array.replicate]) ?_
 simp only[Bool.false_eq_true,if_false]
 refine wpS_of_wp (wp_skip ?_)
 cases c₀
 simp_all [bodyPostS,results,Tryz.results142]
structure PB (w0:World) (n:Nat) (bv:Value) (w:World):Prop where
 q:Blk w n 53 #[bv]
 a:Blk w (n+1) 3 #[.int .i64 0]
 e:Blk w (n+1+1) 29 #[.int .i64 0]
 b:Below n w0 w
 s:n+3<=w.heap.size
section
variable {w0 w w' : World} {n : Nat} {bv bv' : Value}
theorem PB.below (h:PB w0 n bv w) (hb:Below (n+3) w w'):PB w0 n bv w' :=
 ⟨h.q.below hb (by omega),h.a.below hb (by omega),h.e.below hb (by omega),h.b.trans (hb.mono (by omega)),Nat.le_trans h.s hb.size⟩
theorem PB.mt {Ts:List TypeId} (h:PB w0 n bv w) (hm:MT (n+3) Ts w w'):PB w0 n bv w':=h.below (hm.below h.s)
theorem PB.keep (h:PB w0 n bv w) (hb:Below w.heap.size w w'):PB w0 n bv w':=h.below (hb.mono h.s)
theorem PB.mod {F:Nat->Prop} (h:PB w0 n bv w) (hm:Mod F w w') (hF:∀ k,F k->k=n∨n+3<=k) (hq:Blk w' n 53 #[bv']):PB w0 n bv' w' :=
 ⟨hq,h.a.mod hm (fun f=>by have:=hF _ f;omega),h.e.mod hm (fun f=>by have:=hF _ f;omega),h.b.trans (hm.below (by have:=h.s;omega) (fun i f=>by have:=hF _ f;omega)),Nat.le_trans h.s hm.size⟩
end
def BPost (w:World):PR (List Chg)->Ending->World->Prop
 | .bad a f,e,w'=>e=.returned (.tuple #[.slice none 0 0,.int .i64 a,.int .i64 f])/\Below w.heap.size w w'
 | .ok q _,e,w'=>∃ bv,e=.returned (.tuple #[bv,.int .i64 0,.int .i64 0])/\ChgsOwn w.heap.size w' bv q/\Below w.heap.size w w'
theorem PB.start (w:World):PB w w.heap.size (.slice none 0 0) (((w.alloc (.cells #[.slice none 0 0] 53)).alloc (.cells #[.int .i64 0] 3)).alloc (.cells #[.int .i64 0] 29)):=by
 refine⟨((Blk.new w _ _).alloc _).alloc _,?_,?_,balloc (balloc (balloc (Below.refl _ _) _) _) _,by simp⟩
 ·have:=(Blk.new (w.alloc (.cells #[.slice none 0 0] 53)) 3 #[.int .i64 0]).alloc (.cells #[.int .i64 0] 29)
  simpa using this
 ·have:=Blk.new ((w.alloc (.cells #[.slice none 0 0] 53)).alloc (.cells #[.int .i64 0] 3)) 29 #[.int .i64 0]
  simpa using this
theorem PB.fin {w0 w:World} {n:Nat} {x:Value} (h:PB w0 n x w) :
 PB w0 n x (((w.setCell ⟨n,0,none⟩ x).setCell ⟨n+1,0,none⟩ (.int .i64 0)).setCell ⟨n+1+1,0,none⟩ (.int .i64 0)) /\
 MT 0 [53,3,29] w (((w.setCell ⟨n,0,none⟩ x).setCell ⟨n+1,0,none⟩ (.int .i64 0)).setCell ⟨n+1+1,0,none⟩ (.int .i64 0)):=by
 have q1:=h.q.set_ 0 x
 have a1:=h.a.far (p:=⟨n,0,none⟩) (by intro q;simp only at q;omega) x
 have e1:=h.e.far (p:=⟨n,0,none⟩) (by intro q;simp only at q;omega) x
 have a4:=a1.set_ 0 (.int .i64 0)
 have q4:=q1.far (p:=⟨n+1,0,none⟩) (by intro q;simp only at q;omega) (.int .i64 0)
 have e4:=e1.far (p:=⟨n+1,0,none⟩) (by intro q;simp only at q;omega) (.int .i64 0)
 have e5:=e4.set_ 0 (.int .i64 0)
 have q5:=q4.far (p:=⟨n+1+1,0,none⟩) (by intro q;simp only at q;omega) (.int .i64 0)
 have a5:=a4.far (p:=⟨n+1+1,0,none⟩) (by intro q;simp only at q;omega) (.int .i64 0)
 simp only[Array.setIfInBounds] at q5 a5 e5
 refine⟨⟨by simpa using q5,by simpa using a5,by simpa using e5,((h.b.setCell (p:=⟨n,0,none⟩) (Nat.le_refl _) x).setCell (by simp only;omega) _).setCell (by simp only;omega) _,by simpa [World.setCell] using h.s⟩,?_⟩
 have m1:MT 0 [53,3,29] w _:=MT.setCell (i:=0) (MT.refl w) h.q (by simp) (Nat.zero_le _) x
 have m4:=MT.setCell (i:=0) m1 a1 (by simp) (Nat.zero_le _) (.int .i64 0)
 exact MT.setCell (i:=0) m4 e4 (by simp) (Nat.zero_le _) (.int .i64 0)
set_option maxHeartbeats 1000000 in
set_option maxRecDepth 100000 in
theorem batch_exit {w0 w1:World} {x:Value} {T:Array Value} {Post:Ending->World->Prop} (h:PB w0 w0.heap.size x w1) (h2:T[2]?.getD undef=.pointer (some ⟨w0.heap.size,0,none⟩)) (h3:T[3]?.getD undef=.pointer (some ⟨w0.heap.size+1,0,none⟩)) (h4:T[4]?.getD undef=.pointer (some ⟨w0.heap.size+1+1,0,none⟩))
 (hx:x.oneCell'=true) (hp:Post (.returned (.tuple #[x,.int .i64 0,.int .i64 0])) w1) :
 bodyPostD Tryz.prog Tryz.f63 Post Exit.ret
  { tmps:=T,defers:=[{ target:=Target.fn (Fn.func 142) #[.pointer (some ⟨w0.heap.size+1,0,none⟩),.pointer (some ⟨w0.heap.size+1+1,0,none⟩),.pointer (some ⟨w0.heap.size,0,none⟩)],args:=#[] }] } w1:=by
 have c0:=h.q.cell 0
 have c3:=h.a.cell 0
 have c4:=h.e.cell 0
 simp only[List.getElem?_toArray,List.getElem?_cons_zero] at c0 c3 c4
 have HP:=Lib.hid hp
 clear hp h
 refine leaves_cons (f:=142) (args:=#[.pointer (some ⟨w0.heap.size+1,0,none⟩),.pointer (some ⟨w0.heap.size+1+1,0,none⟩),.pointer (some ⟨w0.heap.size,0,none⟩)]) (by simp) (by simp [go_sem]) ?_
 refine (batch_idle _ _ _ _).mono ?_
 rintro e u' w2 ⟨rfl,rfl,rfl⟩
 simp [Leaves,settle,results,Tryz.results63,go_sem,h2,h3,h4,c0,c3,c4]
 exact HP.out
structure Cmd where
 kind:Int
 rel:Rln
 q:Qry
 b:List Chg
 nm:List UInt8
 id:Int
 n:Int
 row:List Vl
def cmd0:Cmd:=⟨0,⟨[],[]⟩,⟨[],[],[]⟩,[],[],0,0,[]⟩
def wordsC:List (List UInt8):=[[114,101,108],[118,105,101,119],[100,114,111,112],[98,97,116,99,104],[114,111,119,115],[111,112,101,110],[110,101,120,116],[114,101,115,101,116],[99,108,111,115,101],[99,111,117,110,116],[110,116,104],[114,97,110,107],[116,101,115,116],[99,108,97,115,115],[99,111,114,101],[115,104,111,119],[100,117,109,112],[99,117,114,115,111,114,115]]
def kindC (t:Tok):Int:=if t.k=1/\t.x∈wordsC then (wordsC.idxOf t.x:Int)+1 else 0
def restC (c:Cmd):Option (List UInt8) :=
 if c.kind=1 then (if showC c.rel.name c.rel.cols=[] then none else some (showC c.rel.name c.rel.cols))
 else if c.kind=2∨c.kind=14∨c.kind=15 then (if showQ c.q=[] then none else some (showQ c.q))
 else if c.kind=4 then (if showBt c.b=[]/\c.b≠[] then none else some (showBt c.b))
 else if c.kind=3∨c.kind=5∨c.kind=6∨c.kind=10∨c.kind=13 then (if isNameB c.nm=true then some c.nm else none)
 else if c.kind=8∨c.kind=9 then some (Lib.itoa c.id)
 else if c.kind=7 then some (Lib.itoa c.id++32::Lib.itoa c.n)
 else if c.kind=11 then (if isNameB c.nm=true then some (c.nm++32::Lib.itoa c.n) else none)
 else if c.kind=12 then (if isNameB c.nm=true/\rowB c.row=true then some (c.nm++rowT0 c.row) else none)
 else some []
def textC (c:Cmd):List UInt8 :=
 if c.kind<1∨18<c.kind then [] else match restC c with
 | none=>[]
 | some r=>if r=[] then wordsC.getD (c.kind - 1).toNat [] else wordsC.getD (c.kind - 1).toNat []++32::r
def wordsW:List (List UInt8):=[]::wordsC
def wordsA:Array Value:=#[.string ⟨#[]⟩,.string ⟨#[114,101,108]⟩,.string ⟨#[118,105,101,119]⟩,.string ⟨#[100,114,111,112]⟩,.string ⟨#[98,97,116,99,104]⟩,.string ⟨#[114,111,119,115]⟩,.string ⟨#[111,112,101,110]⟩,.string ⟨#[110,101,120,116]⟩,.string ⟨#[114,101,115,101,116]⟩,.string ⟨#[99,108,111,115,101]⟩,.string ⟨#[99,111,117,110,116]⟩,.string ⟨#[110,116,104]⟩,.string ⟨#[114,97,110,107]⟩,.string ⟨#[116,101,115,116]⟩,.string ⟨#[99,108,97,115,115]⟩,.string ⟨#[99,111,114,101]⟩,.string ⟨#[115,104,111,119]⟩,.string ⟨#[100,117,109,112]⟩,.string ⟨#[99,117,114,115,111,114,115]⟩]
def WordsAt (w:World):Prop:=∃ t f,w.heap[0]? = some (.cells wordsA t f)
theorem WordsAt.lt {w:World} (h:WordsAt w):0<w.heap.size:=by
 obtain⟨t,f,h⟩:=h
 exact (Array.getElem?_eq_some_iff.1 h).1
theorem WordsAt.below {w w':World} (h:WordsAt w) (hb:Below w.heap.size w w'):WordsAt w':=by
 have hl:=h.lt
 obtain⟨t,f,h⟩:=h
 exact⟨t,f,(hb.block _ hl).trans h⟩
theorem WordsAt.cell {w:World} (h:WordsAt w) (i:Nat):w.cell? ⟨0,i,none⟩=wordsA[i]? := by
 obtain⟨t,f,h⟩:=h
 exact cell_of_row w _ i _ t f h
structure GlobW (w:World):Prop where
 g:Glob w
 v:WordsAt w
theorem GlobW.below {w w':World} (h:GlobW w) (hb:Below w.heap.size w w'):GlobW w':=⟨h.g.below hb,h.v.below hb⟩
theorem words_get (k:Nat) (hk:k<19):wordsA[k]? = some (.string ⟨(wordsW.getD k []).toArray⟩):=by
 have h:k=0∨k=1∨k=2∨k=3∨k=4∨k=5∨k=6∨k=7∨k=8∨k=9∨k=10∨k=11∨k=12∨k=13∨k=14∨k=15∨k=16∨k=17∨k=18:=by omega
 rcases h with rfl | rfl | rfl | rfl | rfl | rfl | rfl | rfl | rfl | rfl | rfl | rfl | rfl | rfl | rfl | rfl | rfl | rfl | rfl<;>rfl
theorem index_words (w:World) (k:Nat) (hk:k<19):(Instr.index 138 (.agg wordsA) (.int .i64 (k:Int))).run Tryz.prog w=.ok (.string ⟨(wordsW.getD k []).toArray⟩) w:=by
 have h1:=words_get k hk
 have h3:=Tryz.sizeOf9 w
 obtain⟨hs,hv⟩:=Array.getElem?_eq_some_iff.1 h1
 simp [Instr.index,asIntOf,run_underlying Tryz.underlying138,part,h1,h3]
 intro hh
 omega
theorem kindC_at {t:Tok} {k:Nat} (hk:k<19) (h1:t.k=1) (hx:wordsW.getD k []=t.x):kindC t=k:=by
 have h:k=0∨k=1∨k=2∨k=3∨k=4∨k=5∨k=6∨k=7∨k=8∨k=9∨k=10∨k=11∨k=12∨k=13∨k=14∨k=15∨k=16∨k=17∨k=18:=by omega
 unfold kindC
 rw[<-hx]
 rcases h with rfl | rfl | rfl | rfl | rfl | rfl | rfl | rfl | rfl | rfl | rfl | rfl | rfl | rfl | rfl | rfl | rfl | rfl | rfl<;>(simp only[h1];decide)
theorem kindC_none {t:Tok} (h:∀ k,k<19->wordsW.getD k []≠t.x):kindC t=0:=by
 unfold kindC
 rw[if_neg]
 rintro ⟨_,hm⟩
 obtain⟨i,hi⟩:=List.getElem?_of_mem hm
 have hl:wordsC.length=18:=rfl
 have hil:=(List.getElem?_eq_some_iff.1 hi).1
 refine h (i+1) (by omega) ?_
 unfold wordsW
 rw[List.getD_cons_succ,List.getD_eq_getElem?_getD,hi]
 rfl
theorem kindC_name {t:Tok} (h:t.k≠1):kindC t=0:=by
 unfold kindC
 rw[if_neg (fun q=>h q.1)]
theorem setCell_self {w:World} {g i:Nat} {t:TypeId} {cs:Array Value} {v:Value} (h:Blk w g t cs) (hv:cs[i]? = some v):w.setCell ⟨g,i,none⟩ v=w:=by
 have hg:w.heap[g]? = some (.cells cs t (0,0)):=h
 obtain⟨hi,hx⟩:=Array.getElem?_eq_some_iff.1 hv
 have hc:cs.setIfInBounds i v=cs:=by
  rw[<-hx]
  simp [Array.setIfInBounds,hi]
 unfold World.setCell
 have e:(w.heap.modify g fun o=>match o with
  | .cells c e f=>.cells (c.setIfInBounds i v) e f
  | o=>o)=w.heap:=by
  apply Array.ext_getElem?
  intro k
  rw[Array.getElem?_modify]
  by_cases hk:g=k
  ·subst hk
   rw[if_pos rfl,hg]
   simp [hc]
  ·rw[if_neg hk]
 exact congrArg (fun h=>({ w with heap:=h }:World)) e
set_option maxHeartbeats 2000000 in
set_option maxRecDepth 100000 in
theorem cmd_idle (p q r:Addr) (w:World) :
 CallsD Tryz.prog 52 #[.pointer (some p),.pointer (some q),.pointer (some r)] .returning w fun e u' w'=>e=.returned (.tuple #[])/\u'=.returning/\w'=w:=by
 have hc:=caught_nil p q w
 refine callsD_of_wpS Tryz.func52 rfl fun c₀ cs hu=>?_
 apply wpS_seq
 apply wpS_region
 simp [wpOpsS,go_sem,recoverD,hu,Tryz.ntmps52,Exit.thenS]
 refine hc.mono ?_
 rintro e w1 ⟨rfl,rfl⟩
 refine wpS_cond (t:=false) (by simp [Act.eval,Array.replicate]) ?_
 simp only[Bool.false_eq_true,if_false]
 refine wpS_of_wp (wp_skip ?_)
 cases c₀
 simp_all [bodyPostS,results,Tryz.results52]
structure PCm (w0:World) (n:Nat) (cs:Array Value) (w:World):Prop where
 q:Blk w n 61 cs
 a:Blk w (n+1) 3 #[.int .i64 0]
 e:Blk w (n+1+1) 29 #[.int .i64 0]
 b:Below n w0 w
 s:n+3<=w.heap.size
section
variable {w0 w w' : World} {n : Nat} {cs : Array Value}
theorem PCm.below (h:PCm w0 n cs w) (hb:Below (n+3) w w'):PCm w0 n cs w' :=
 ⟨h.q.below hb (by omega),h.a.below hb (by omega),h.e.below hb (by omega),h.b.trans (hb.mono (by omega)),Nat.le_trans h.s hb.size⟩
theorem PCm.mt {Ts:List TypeId} (h:PCm w0 n cs w) (hm:MT (n+3) Ts w w'):PCm w0 n cs w':=h.below (hm.below h.s)
theorem PCm.keep (h:PCm w0 n cs w) (hb:Below w.heap.size w w'):PCm w0 n cs w':=h.below (hb.mono h.s)
theorem PCm.store (h:PCm w0 n cs w) (i:Nat) (u:Value):PCm w0 n (cs.setIfInBounds i u) (w.setCell ⟨n,i,none⟩ u) :=
 ⟨h.q.set_ i u,h.a.far (by intro q;simp only at q;omega) u,h.e.far (by intro q;simp only at q;omega) u,h.b.setCell (Nat.le_refl _) u,by simpa [World.setCell] using h.s⟩
end
def CmdOwn (B:Nat) (w:World) (cells:Array Value) (c:Cmd):Prop :=
 ∃ cv hv av bv rv,cells=#[.int .i64 c.kind,.string ⟨c.rel.name.toArray⟩,cv,.string ⟨c.q.name.toArray⟩,hv,av,bv,.string ⟨c.nm.toArray⟩,.int .i64 c.id,.int .i64 c.n,rv] /\
  ColsOwn B w cv c.rel.cols/\OwnS B w hv c.q.head/\AtomsOwn B w av c.q.atoms/\ChgsOwn B w bv c.b/\w.ownsRow B 111 3 rv c.row.length (c.row.map Vl.cells).flatten
def CmdPost (w:World):PR Cmd->Ending->World->Prop
 | .bad a f,e,w'=>e=.returned (.tuple #[.agg #[.int .i64 0,.string ⟨#[]⟩,.slice none 0 0,.string ⟨#[]⟩,.slice none 0 0,.slice none 0 0,.slice none 0 0,.string ⟨#[]⟩,.int .i64 0,.int .i64 0,.slice none 0 0],.int .i64 a,.int .i64 f])/\Below w.heap.size w w'
 | .ok c _,e,w'=>∃ cells,e=.returned (.tuple #[.agg cells,.int .i64 0,.int .i64 0])/\CmdOwn w.heap.size w' cells c/\Below w.heap.size w w'
theorem PCm.start (w:World):PCm w w.heap.size #[.int .i64 0,.string ⟨#[]⟩,.slice none 0 0,.string ⟨#[]⟩,.slice none 0 0,.slice none 0 0,.slice none 0 0,.string ⟨#[]⟩,.int .i64 0,.int .i64 0,.slice none 0 0] (((w.alloc (.cells #[.int .i64 0,.string ⟨#[]⟩,.slice none 0 0,.string ⟨#[]⟩,.slice none 0 0,.slice none 0 0,.slice none 0 0,.string ⟨#[]⟩,.int .i64 0,.int .i64 0,.slice none 0 0] 61)).alloc (.cells #[.int .i64 0] 3)).alloc (.cells #[.int .i64 0] 29)):=by
 refine⟨((Blk.new w _ _).alloc _).alloc _,?_,?_,balloc (balloc (balloc (Below.refl _ _) _) _) _,by simp⟩
 ·have:=(Blk.new (w.alloc (.cells #[.int .i64 0,.string ⟨#[]⟩,.slice none 0 0,.string ⟨#[]⟩,.slice none 0 0,.slice none 0 0,.slice none 0 0,.string ⟨#[]⟩,.int .i64 0,.int .i64 0,.slice none 0 0] 61)) 3 #[.int .i64 0]).alloc (.cells #[.int .i64 0] 29)
  simpa using this
 ·have:=Blk.new ((w.alloc (.cells #[.int .i64 0,.string ⟨#[]⟩,.slice none 0 0,.string ⟨#[]⟩,.slice none 0 0,.slice none 0 0,.slice none 0 0,.string ⟨#[]⟩,.int .i64 0,.int .i64 0,.slice none 0 0] 61)).alloc (.cells #[.int .i64 0] 3)) 29 #[.int .i64 0]
  simpa using this
theorem PCm.fin {w0 w1:World} {x0 x1 x2 x3 x4 x5 x6 x7 x8 x9 x10:Value} (h:PCm w0 w0.heap.size #[x0,x1,x2,x3,x4,x5,x6,x7,x8,x9,x10] w1):(w1.setCell ⟨w0.heap.size+1,0,none⟩ (.int .i64 0)).setCell ⟨w0.heap.size+1+1,0,none⟩ (.int .i64 0)=w1:=by
 rw[setCell_self (i:=0) h.a (by rfl),setCell_self (i:=0) h.e (by rfl)]
set_option maxHeartbeats 2000000 in
set_option maxRecDepth 100000 in
theorem cmd_exit {w0 w1:World} {x0 x1 x2 x3 x4 x5 x6 x7 x8 x9 x10:Value} {T:Array Value} {Post:Ending->World->Prop} (h:PCm w0 w0.heap.size #[x0,x1,x2,x3,x4,x5,x6,x7,x8,x9,x10] w1) (h2:T[2]?.getD undef=.pointer (some ⟨w0.heap.size,0,none⟩)) (h3:T[3]?.getD undef=.pointer (some ⟨w0.heap.size+1,0,none⟩)) (h4:T[4]?.getD undef=.pointer (some ⟨w0.heap.size+1+1,0,none⟩))
 (hp:Post (.returned (.tuple #[.agg #[x0,x1,x2,x3,x4,x5,x6,x7,x8,x9,x10],.int .i64 0,.int .i64 0])) w1) :
 bodyPostD Tryz.prog Tryz.f22 Post Exit.ret { tmps:=T,defers:=[{ target:=Target.fn (Fn.func 52) #[.pointer (some ⟨w0.heap.size+1,0,none⟩),.pointer (some ⟨w0.heap.size+1+1,0,none⟩),.pointer (some ⟨w0.heap.size,0,none⟩)],args:=#[] }] } ((w1.setCell ⟨w0.heap.size+1,0,none⟩ (.int .i64 0)).setCell ⟨w0.heap.size+1+1,0,none⟩ (.int .i64 0)):=by
 rw[h.fin]
 have c0:=h.q.cell 0
 have c1:=h.q.cell 1
 have c2:=h.q.cell 2
 have c3:=h.q.cell 3
 have c4:=h.q.cell 4
 have c5:=h.q.cell 5
 have c6:=h.q.cell 6
 have c7:=h.q.cell 7
 have c8:=h.q.cell 8
 have c9:=h.q.cell 9
 have c10:=h.q.cell 10
 have c11:=h.a.cell 0
 have c12:=h.e.cell 0
 simp only[List.getElem?_toArray,List.getElem?_cons_zero,List.getElem?_cons_succ] at c0 c1 c2 c3 c4 c5 c6 c7 c8 c9 c10 c11 c12
 have HP:=Lib.hid hp
 clear hp h
 refine leaves_cons (f:=52) (args:=#[.pointer (some ⟨w0.heap.size+1,0,none⟩),.pointer (some ⟨w0.heap.size+1+1,0,none⟩),.pointer (some ⟨w0.heap.size,0,none⟩)]) (by simp) (by simp [go_sem]) ?_
 refine (cmd_idle _ _ _ _).mono ?_
 rintro e u' w2 ⟨rfl,rfl,rfl⟩
 simp [Leaves,settle,results,Tryz.results22,go_sem,h2,h3,h4,c0,c1,c2,c3,c4,c5,c6,c7,c8,c9,c10,c11,c12]
 exact HP.out
theorem strC_len (l:List (List UInt8)):∀ x∈l.map strC,x.length=1:=by
 intro x hx
 simp at hx
 obtain⟨t,_,rfl⟩:=hx
 rfl
theorem strC_one (l:List (List UInt8)):∀ x∈l.map strC,∀ u∈x,u.oneCell'=true:=by
 intro x hx u hu
 simp at hx
 obtain⟨t,_,rfl⟩:=hx
 simp only[strC,List.mem_cons,List.not_mem_nil,or_false] at hu
 subst hu
 rfl
set_option maxHeartbeats 2000000 in
set_option maxRecDepth 100000 in
theorem textsC_any (w:World) (v:Value) (l:List (List UInt8)) (h:StrsAt w v l) :
 Calls Tryz.prog 17 #[v] w fun e w'=>∃ v',e=.returned v'/\OwnS w.heap.size w' v' l/\Below w.heap.size w w':=by
 obtain⟨i0,hi0,hz0,hz1,hz2⟩:=info_parts Tryz.infoStr
 obtain⟨ad,cap,rfl,hnc,hcm⟩:=h.form
 have hln:=h.len
 unfold maxLen at hcm
 have HR:Hid (RowAt w (.slice ad l.length cap) 1 (l.map strC)):=Lib.hid h
 have HL:=Lib.hid (strC_len l)
 have HO:=Lib.hid (strC_one l)
 have hlen:(l.map strC).length=l.length:=by simp
 have hfl:=strC_flat l
 have hos:∀ (w':World) (v':Value),w'.ownsRow w.heap.size 9 1 v' l.length (l.map strC).flatten->OwnS w.heap.size w' v' l:=fun w' v' hh=>by
  unfold OwnS
  rw[<-strC_flat]
  exact hh
 generalize l.map strC=xs at *
 generalize hN:l.length=n at *
 have HX:=Lib.hid hlen
 have HOS:=Lib.hid hos
 clear h hN hlen hfl hos
 go_enter Tryz.func17,Tryz.ntmps17
 go_wp2_with (at_make;refine wpList_make_full _ rfl _ _ 28 rfl w.heap.size 9 i0 (.string ⟨#[]⟩) 1 Tryz.underlying28 hi0 hz0 hz1 _ _ _ _ n rfl rfl rfl rfl ?b2 ?b3 ?b4 ?_)
 case b2=>rw[hz2];omega
 case b3=>unfold maxLen;omega
 case b4=>omega
 intro w2 hown2 hgrow2
 have hbw2:Below w.heap.size w w2:=(Below.refl _ w).grown hgrow2 (Nat.le_refl _) (fun q hq=>by cases hq)
 have HOW2:=Lib.hid hown2
 have HBW2:=Lib.hid hbw2
 have HR2:=Lib.hid (HR.out.keep hbw2)
 clear hbw2 hown2 hgrow2
 go_wp2_with (refine wpList_copy_full rfl _ _ _ _ rfl 9 1 Tryz.underlying28 (by kernel_rfl) w.heap.size n _ rfl rfl _ w.heap.size HOW2.out xs HR2.out HX.out HL.out HO.out (Nat.le_refl _) ?_)
 intro w3 hown3 hmod3 hsz3
 have HOW3:=Lib.hid (HOS.out _ _ hown3)
 have HBW3:=Lib.hid (Mod.own HBW2.out hmod3 (Nat.le_refl _))
 clear hown3 hmod3 hsz3
 go_wp2_with fail
 go_ret
 exact⟨_,rfl,HOW3.out,HBW3.out⟩
theorem set3_facts {w1:World} {y:Nat} {tq:TypeId} {a b c a' b' c':Value} (hz:Blk w1 y tq #[a',b',c']) :
 Blk (((w1.setCell ⟨y,0,none⟩ a).setCell ⟨y,1,none⟩ b).setCell ⟨y,2,none⟩ c) y tq #[a,b,c]/\MT 0 [tq] w1 (((w1.setCell ⟨y,0,none⟩ a).setCell ⟨y,1,none⟩ b).setCell ⟨y,2,none⟩ c) /\
 (∀ (g:Nat) (t:TypeId) (cs:Array Value),g≠y->Blk w1 g t cs->Blk (((w1.setCell ⟨y,0,none⟩ a).setCell ⟨y,1,none⟩ b).setCell ⟨y,2,none⟩ c) g t cs) /\
 ∀ (B:Nat) (w0:World),B<=y->Below B w0 w1->Below B w0 (((w1.setCell ⟨y,0,none⟩ a).setCell ⟨y,1,none⟩ b).setCell ⟨y,2,none⟩ c):=by
 have z1:=hz.set_ 0 a
 have z2:=z1.set_ 1 b
 have z3:=z2.set_ 2 c
 refine⟨by simpa using z3,?_,fun g t cs hg hb=>((hb.far hg _).far hg _).far hg _,fun B w0 hB hb=>((hb.setCell (p:=⟨y,0,none⟩) hB _).setCell (p:=⟨y,1,none⟩) hB _).setCell (p:=⟨y,2,none⟩) hB _⟩
 exact MT.setCell (MT.setCell (MT.setCell (MT.refl w1) hz (by simp) (Nat.zero_le _) a) z1 (by simp) (Nat.zero_le _) b) z2 (by simp) (Nat.zero_le _) c
theorem atomsRowG {B:Nat} {w:World} {v:Value} {n:Nat} {rows:List (List Value)} {al:List Atm} (h:w.ownsRow B 105 2 v n rows.flatten) (hn:n=al.length) (h2:All2 (AtmO B w) rows al) (hl:al.length<=8796093022208) (ht:∀ a∈al,a.ts.length<=2932031007317):AtomsAt w v al:=by
 have hll:=h2.length
 refine⟨rows,RowAt.ofOwn h (by omega) ?_ (by omega),all2_and h2 fun c x hx hr=>?_⟩
 ·intro c hc
  obtain⟨x,_,tv,rfl,_⟩:=all2_mem h2 c hc
  rfl
 ·obtain⟨tv,rfl,ho⟩:=hr
  rw[<-map_flat] at ho
  refine⟨tv,rfl,RowAt.ofOwn ho (by simp) (trm_len _) (by have:=ht x hx;simp;omega),ht x hx⟩
theorem AtomsAt.small {w:World} {v:Value} {al:List Atm} (h:AtomsAt w v al):∀ a∈al,a.ts.length<=2932031007317:=by
 intro a ha
 obtain⟨i,hi⟩:=List.getElem?_of_mem ha
 obtain⟨_,_,_,_,_,_,_,_,_,_,_,h9⟩:=h.get hi
 exact h9
theorem Tryz.infoChg:(Tryz.prog.info? 68).map (fun i=>(i.zero,i.size,i.bytes))=some (some (.agg #[.bool false,.string ⟨#[]⟩,.slice none 0 0]),3,48):=by kernel_rfl
theorem overB_same {xs:List ChP} {a b:ChP} (h:a.2=b.2):overP (xs++[a])=overP (xs++[b]):=by
 rw[overB_snoc,overB_snoc,h]
def JB (B n b r ov:Nat) (w:World) (bv:Value) (xs:List ChP):Prop :=
 InB w b r/\Blk w ov 3 #[.int .i64 (overP xs)]/\Blk w n 53 #[bv]/\ChgsOwn B w bv (xs.map (·.1))
def F1 (n:Nat) (w:World) (bv:Value) (k:Nat):Prop:=k=n∨(n+3<=k/\tyIn w [213,3] k)∨bv.ownBlock=some k
def CPost (B n b r ov:Nat) (vt:Value) (w:World) (bv:Value) (xs:List ChP):PR ChP->Ending->World->Prop
 | .bad a f,e,w'=>e=.panicked [{ v:=faultV a f,recovered:=false }]/\MT (n+3) [213,3] w w'
 | .ok x c',e,w'=>∃ bv' rv,e=.returned (.agg #[.bool x.1.add,.string ⟨x.1.rel.toArray⟩,rv])/\rv.oneCell'=true/\JB B n b r ov w' bv' (xs++[x])/\Rs w' r c' vt/\Mod (F1 n w bv) w w' /\
    ∀ k,bv'.ownBlock=some k->bv.ownBlock=some k∨w.heap.size<=k
theorem sgn_tx (w:World) (o:Obj):TX ((w.alloc o).alloc (.cells #[.string ⟨#[43]⟩,.string ⟨#[45]⟩] 9)) (.slice (some ⟨w.heap.size+1,0,none⟩) 2 2) sgnX:=by
 have hbs:=blkNew1 w o 9 #[.string ⟨#[43]⟩,.string ⟨#[45]⟩]
 refine⟨by simp,some ⟨w.heap.size+1,0,none⟩,2,rfl,.inr ⟨w.heap.size+1,0,rfl,hbs.lt,?_⟩⟩
 intro j s hj
 match j with
 | 0=>simp at hj;subst hj;exact hbs.cell 0
 | 1=>simp at hj;subst hj;exact hbs.cell 1
 | j+2=>simp at hj
theorem chgs_snoc {B g cap L:Nat} {w9:World} {rows:List (List Value)} {l:List Chg} {x:Chg} {rv:Value} (hL:l.length=L)
 (hown:w9.ownsRow B 68 3 (.slice (some ⟨g,0,none⟩) (L+1) cap) (L+1) (rows.flatten++[.bool x.add,.string ⟨x.rel.toArray⟩,rv]))
 (hall:All2 (ChgO B w9) rows l) (hrow:w9.ownsRow B 111 3 rv x.row.length (x.row.map Vl.cells).flatten):ChgsOwn B w9 (.slice (some ⟨g,0,none⟩) (L+1) cap) (l++[x]):=by
 subst hL
 refine⟨rows++[[.bool x.add,.string ⟨x.rel.toArray⟩,rv]],?_,All2.snoc ⟨rv,rfl,hrow⟩ hall⟩
 rw[List.flatten_append,List.length_append]
 simpa using hown
section
variable {B B' n b r ov : Nat} {w w' : World} {bv : Value} {xs : List ChP} {Ts : List TypeId}
theorem JB.mt (h:JB B n b r ov w bv xs) (hm:MT B' Ts w w') (h1:118 ∉ Ts) (h2:3 ∉ Ts) (h3:53 ∉ Ts) (h4:68 ∉ Ts) (h5:111 ∉ Ts):JB B n b r ov w' bv xs :=
 ⟨Blk.mt h.1 hm h1,h.2.1.mt hm h2,h.2.2.1.mt hm h3,h.2.2.2.mt hm h4 h5⟩
theorem JB.keep (h:JB B n b r ov w bv xs) (hb:Below w.heap.size w w'):JB B n b r ov w' bv xs :=
 h.mt (MT.ofBelow (B:=0) (Ts:=[]) hb) (by simp) (by simp) (by simp) (by simp) (by simp)
theorem JB.lt (h:JB B n b r ov w bv xs):∀ k,bv.ownBlock=some k->B<=k/\k<w.heap.size:=by
 obtain⟨_,_,_,rows,h1,_⟩:=h
 exact fun k hk=>World.ownsRow.lt h1 k hk
end
def FB (n k:Nat):Prop:=k=n∨n+3<=k
theorem f1_fb {n b r ov:Nat} {w:World} {bv:Value} {xs:List ChP} (h:JB (n+3) n b r ov w bv xs):∀ k,F1 n w bv k->FB n k:=by
 rintro k (rfl | h1 | h1)
 ·exact .inl rfl
 ·exact .inr h1.1
 ·exact .inr (h.lt k h1).1
end Go.Proofs.YtgopfpjinohncaaGreatDoor
