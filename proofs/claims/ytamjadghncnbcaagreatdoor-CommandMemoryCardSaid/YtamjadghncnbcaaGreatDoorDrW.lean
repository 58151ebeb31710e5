/- osierref25.Words, walked. osierref25.fields, walked (printed by mkcr.py). osierref25.fields, walked (printed by mkcr.py): two numbers, a name and a number. -/
import Derived.Test.YtamjadghncnbcaaGreatDoorDaW
import Derived.Test.YtamjadghncnbcaaGreatDoorGbW
import Derived.Test.YtamjadghncnbcaaGreatDoorDbW
import Derived.Test.YtamjadghncnbcaaGreatDoorGfW
import Derived.LoopN
import Derived.Deep.RegionLaw
import Derived.BigQuiet
namespace Go.Proofs.YtamjadghncnbcaaGreatDoor
open Go.RowKit
set_option linter.unusedVariables false
def formsC:List (List UInt8):=[[100],[113],[110],[98],[110],[110],[105,107],[105],[105],[110],[110,107],[110,114],[110],[113],[113],[],[],[]]
theorem strs_blk {w:World} {g:Nat} {l:List (List UInt8)} (h:Blk w g 9 (l.map fun s=>Value.string ⟨s.toArray⟩).toArray) (hl:l.length<=100000):StrsAt w (.slice (some ⟨g,0,none⟩) l.length l.length) l:=by
 refine⟨by rw[List.length_map];omega,some ⟨g,0,none⟩,l.length,by rw[List.length_map],by rw[List.length_map];omega,by unfold maxLen;omega,.inr ⟨g,0,rfl,h.lt,?_⟩⟩
 intro i j x u hi hj
 rw[List.getElem?_map] at hi
 obtain⟨s,hs,rfl⟩:=Option.map_eq_some_iff.1 hi
 unfold strC at hj
 have hj0:j=0:=by
  have:=(List.getElem?_eq_some_iff.1 hj).1
  simpa using this
 subst hj0
 simp only[List.getElem?_cons_zero,Option.some.injEq] at hj
 subst hj
 have:=h.cell (0+i * 1+0)
 rw[this]
 simp [hs]
set_option maxHeartbeats 4000000 in
set_option maxRecDepth 100000 in
theorem refWords_any (w:World) :
 Calls Tryz.prog 52 #[] w fun e w'=>e=.returned (.tuple #[.slice (some ⟨w.heap.size,0,none⟩) 18 18,.slice (some ⟨w.heap.size+1,0,none⟩) 18 18])/\Blk w' w.heap.size 9 (wordsC.map fun s=>Value.string ⟨s.toArray⟩).toArray/\Blk w' (w.heap.size+1) 9 (formsC.map fun s=>Value.string ⟨s.toArray⟩).toArray/\Below w.heap.size w w':=by
 have h1:=(Blk.new w 9 (wordsC.map fun s=>Value.string ⟨s.toArray⟩).toArray).alloc (.cells (formsC.map fun s=>Value.string ⟨s.toArray⟩).toArray 9)
 have h2:=blkNew1 w (.cells (wordsC.map fun s=>Value.string ⟨s.toArray⟩).toArray 9) 9 (formsC.map fun s=>Value.string ⟨s.toArray⟩).toArray
 have h3:Below w.heap.size w ((w.alloc (.cells (wordsC.map fun s=>Value.string ⟨s.toArray⟩).toArray 9)).alloc (.cells (formsC.map fun s=>Value.string ⟨s.toArray⟩).toArray 9)):=balloc (balloc (Below.refl _ _) _) _
 have H:=Lib.hid (And.intro h1 (And.intro h2 h3))
 clear h1 h2 h3
 go_enter Tryz.func52,Tryz.ntmps52
 go_wp2_with fail
 exact bodyPost_ret (v:=.tuple #[.slice (some ⟨w.heap.size,0,none⟩) 18 18,.slice (some ⟨w.heap.size+1,0,none⟩) 18 18]) (by simp [results,Tryz.results52,go_sem]) rfl ⟨rfl,H.out⟩
structure FI (w0 w:World) (b:Nat) (vt:Value) (S:LS) (cs:Array Value):Prop where
 ln:Ln w b S vt
 mt:MT b [101] w0 w
 q:Blk w w0.heap.size 39 cs
 z:Blk w (w0.heap.size+1) 39 #[.int .i64 0,.string ⟨#[]⟩,.slice none 0 0,.string ⟨#[]⟩,.slice none 0 0,.slice none 0 0,.slice none 0 0,.string ⟨#[]⟩,.int .i64 0,.int .i64 0,.slice none 0 0]
 g:Good S
section
variable {w0 w w' : World} {b : Nat} {vt : Value} {S S' : LS} {cs : Array Value}
theorem FI.line (h:FI w0 w b vt S cs) (hm:MT b [101] w w') (hl:Ln w' b S' vt) (hg:Good S'):FI w0 w' b vt S' cs :=
 ⟨hl,h.mt.trans hm,h.q.mt hm (by decide),h.z.mt hm (by decide),hg⟩
theorem FI.keep (h:FI w0 w b vt S cs) (hb:Below w.heap.size w w'):FI w0 w' b vt S cs :=
 ⟨h.ln.keep hb,h.mt.plusBelow hb,h.q.below hb h.q.lt,h.z.below hb h.z.lt,h.g⟩
theorem FI.store (h:FI w0 w b vt S cs) (hb:b<=w0.heap.size) (i:Nat) (u:Value):FI w0 (w.setCell ⟨w0.heap.size,i,none⟩ u) b vt S (cs.setIfInBounds i u):=by
 have ms:MT 0 [39] w (w.setCell ⟨w0.heap.size,i,none⟩ u):=MT.setCell (MT.refl w) h.q (by simp) (Nat.zero_le _) _
 exact⟨h.ln.mt ms (by decide) (by decide),h.mt.own (b:=w0.heap.size) ((Mod.refl (fun k=>k=w0.heap.size) w).setCell (p:=⟨w0.heap.size,i,none⟩) (fun _=>rfl) _) (Nat.le_refl _),h.q.set_ i u,h.z.far (by intro q;simp only at q;omega) u,h.g⟩
end
def FR (S:LS) (c:Cmd):PR Cmd->Prop
 | .bad a f=>S=.bad a f
 | .ok x r=>S=.ok r/\c=x
def FPost (w:World) (b:Nat) (vt:Value) (p:PR Cmd) (e:Ending) (w':World):Prop :=
 ∃ cells c S,e=.returned (.agg cells)/\CmdOwn w.heap.size w' cells c/\Ln w' b S vt/\Good S/\MT b [101] w w'/\FR S c p
theorem next_gen {w:World} {b:Nat} {s:LS} {vt:Value} (h:Ln w b s vt) :
 Calls Tryz.prog 53 #[.pointer (some ⟨b,0,none⟩)] w fun e w'=>(∃ t,e=.returned t.v/\∀ c,s=.ok c->t=headT c)/\Below w.heap.size w w':=by
 obtain⟨ts,i,a,e0,h1,h2⟩:=h
 refine (next_any w b ts i a e0 vt h1).mono ?_
 rintro e w' ⟨rfl,hb⟩
 refine⟨⟨_,rfl,fun c hc=>?_⟩,hb⟩
 subst hc
 rw[h2.2]
def numS (t:Tok) (s:LS):LS:=if t.k=2/\t.vk=1 then s else failS t.p 80 s
theorem numS_nb {t:Tok} {s:LS} (h:Good s):Good (numS t s):=by
 unfold numS
 split
 ·exact h
 ·cases s with
  | bad a e=>exact h
  | ok c=>exact (by decide:(80:Int)≠0)
theorem numS_bad {t:Tok} {a e:Int}:(wantS 2 [] (numS t (.bad a e)))=(tok0,.bad a e):=by
 unfold numS
 split<;>rfl
theorem numS_ok {t:Tok} {c:List Tok} (he:Ended c) (ht:t=headT c):match numP c with
 | .bad a e=>wantS 2 [] (numS t (.ok c))=(tok0,.bad a e)
 | .ok v r=>(wantS 2 [] (numS t (.ok c))).1.vn=v/\(wantS 2 [] (numS t (.ok c))).2=.ok r/\Ended r:=by
 obtain⟨u,r,rfl⟩:=he.some
 obtain rfl:t=u:=ht
 unfold numS
 by_cases h:t.k=2/\t.vk=1
 ·rw[if_pos h]
  have hp:numP (t::r)=.ok t.vn r:=numP_ok h.1 h.2
  rw[hp]
  have hw:wantS 2 [] (.ok (t::r))=(t,.ok r):=by
   show wantT 2 [] (t::r)=_
   unfold wantT
   exact if_pos ⟨h.1,.inl rfl⟩
  rw[hw]
  exact⟨rfl,rfl,he.cons (by rw[h.1];decide)⟩
 ·rw[if_neg h,numP_bad h]
  rfl
theorem nmS_ok {c:List Tok} (he:Ended c):match nmP1 c with
 | .bad a e=>(wantS 1 [] (.ok c)).2=.bad a e
 | .ok v r=>(wantS 1 [] (.ok c)).1.x=v/\(wantS 1 [] (.ok c)).2=.ok r/\Ended r:=by
 have h:=want_tk0 (k:=1) he (by decide)
 unfold nmP1
 cases ho:tk 1 [] c with
 | bad a e =>
   rw[ho] at h
   exact congrArg Prod.snd h
 | ok t r =>
   rw[ho] at h
   simp only at h ⊢
   rw[h.1]
   exact⟨rfl,rfl,h.2⟩
theorem law_n {P:PR Cmd} {c:List Tok} {K:Int} {T:Tok} {S:LS} (hP:P=bindP (nmP1 c) fun x c1=>.ok { cmd0 with kind:=K,nm:=x } c1) (he:Ended c) (hT:(wantS 1 [] (.ok c)).1=T) (hS:(wantS 1 [] (.ok c)).2=S) :
 FR S { cmd0 with kind:=K,nm:=T.x } P:=by
 have h:=nmS_ok he
 subst hP
 unfold bindP
 cases hq:nmP1 c with
 | bad a e =>
   rw[hq] at h
   exact hS.symm.trans h
 | ok x r =>
   rw[hq] at h
   refine⟨hS.symm.trans h.2.1,?_⟩
   rw[<-h.1,hT]
theorem law_i {P:PR Cmd} {c:List Tok} {K:Int} {t T:Tok} {S:LS} (hP:P=bindP (numP c) fun i c1=>.ok { cmd0 with kind:=K,id:=i } c1) (he:Ended c) (ht:∀ c',LS.ok c=.ok c'->t=headT c') (hT:(wantS 2 [] (numS t (.ok c))).1=T) (hS:(wantS 2 [] (numS t (.ok c))).2=S) :
 FR S { cmd0 with kind:=K,id:=T.vn } P:=by
 have h:=numS_ok he (ht c rfl)
 subst hP
 unfold bindP
 cases hq:numP c with
 | bad a e =>
   rw[hq] at h
   show S=_
   rw[<-hS,h]
 | ok x r =>
   rw[hq] at h
   refine⟨hS.symm.trans h.2.1,?_⟩
   rw[<-h.1,hT]
theorem law_ik {P:PR Cmd} {c:List Tok} {K:Int} {t1 T1 t2 T2:Tok} {S1 S2:LS} (hP:P=bindP (numP c) fun i c1=>bindP (numP c1) fun j c2=>.ok { cmd0 with kind:=K,id:=i,n:=j } c2) (he:Ended c) (ht:∀ c',LS.ok c=.ok c'->t1=headT c') (hT:(wantS 2 [] (numS t1 (.ok c))).1=T1) (hS:(wantS 2 [] (numS t1 (.ok c))).2=S1)
 (ht2:∀ c',S1=.ok c'->t2=headT c') (hT2:(wantS 2 [] (numS t2 S1)).1=T2) (hS2:(wantS 2 [] (numS t2 S1)).2=S2) :
 FR S2 { cmd0 with kind:=K,id:=T1.vn,n:=T2.vn } P:=by
 have h:=numS_ok he (ht c rfl)
 subst hP
 unfold bindP
 cases hq:numP c with
 | bad a e =>
   rw[hq] at h
   have hs:S1=.bad a e:=by rw[<-hS,h]
   subst hs
   show S2=_
   rw[<-hS2,numS_bad]
 | ok x r =>
   rw[hq] at h
   obtain⟨h1,h2,h3⟩:=h
   have hs:S1=.ok r:=hS.symm.trans h2
   subst hs
   have h4:=numS_ok h3 (ht2 r rfl)
   simp only
   cases hq2:numP r with
   | bad a e =>
     rw[hq2] at h4
     show S2=_
     rw[<-hS2,h4]
   | ok y r2 =>
     rw[hq2] at h4
     refine⟨hS2.symm.trans h4.2.1,?_⟩
     rw[<-h1,<-h4.1,hT,hT2]
theorem law_nk {P:PR Cmd} {c:List Tok} {K:Int} {T1 t2 T2:Tok} {S1 S2:LS} (hP:P=bindP (nmP1 c) fun x c1=>bindP (numP c1) fun j c2=>.ok { cmd0 with kind:=K,nm:=x,n:=j } c2) (he:Ended c) (hT:(wantS 1 [] (.ok c)).1=T1) (hS:(wantS 1 [] (.ok c)).2=S1)
 (ht2:∀ c',S1=.ok c'->t2=headT c') (hT2:(wantS 2 [] (numS t2 S1)).1=T2) (hS2:(wantS 2 [] (numS t2 S1)).2=S2) :
 FR S2 { cmd0 with kind:=K,nm:=T1.x,n:=T2.vn } P:=by
 have h:=nmS_ok he
 subst hP
 unfold bindP
 cases hq:nmP1 c with
 | bad a e =>
   rw[hq] at h
   have hs:S1=.bad a e:=hS.symm.trans h
   subst hs
   show S2=_
   rw[<-hS2,numS_bad]
 | ok x r =>
   rw[hq] at h
   obtain⟨h1,h2,h3⟩:=h
   have hs:S1=.ok r:=hS.symm.trans h2
   subst hs
   have h4:=numS_ok h3 (ht2 r rfl)
   simp only
   cases hq2:numP r with
   | bad a e =>
     rw[hq2] at h4
     show S2=_
     rw[<-hS2,h4]
   | ok y r2 =>
     rw[hq2] at h4
     refine⟨hS2.symm.trans h4.2.1,?_⟩
     rw[<-h1,<-h4.1,hT,hT2]
set_option maxHeartbeats 8000000 in
set_option maxRecDepth 100000 in
theorem fld_n (w:World) (b:Nat) (vt:Value) (c:List Tok) (K:Int) (h:Ln w b (.ok c) vt) (hg:Good (.ok c)) (P:PR Cmd) (hP:P=bindP (nmP1 c) fun x c1=>.ok { cmd0 with kind:=K,nm:=x } c1)
 :
  Calls Tryz.prog 59 #[.pointer (some ⟨b,0,none⟩),.agg #[.int .i64 K,.string ⟨#[]⟩,.slice none 0 0,.string ⟨#[]⟩,.slice none 0 0,.slice none 0 0,.slice none 0 0,.string ⟨#[]⟩,.int .i64 0,.int .i64 0,.slice none 0 0],.string ⟨#[110]⟩] w (FPost w b vt P):=by
 have hbl:=h.lt
 have bk:Below w.heap.size w ((w.alloc (.cells #[.int .i64 K,.string ⟨#[]⟩,.slice none 0 0,.string ⟨#[]⟩,.slice none 0 0,.slice none 0 0,.slice none 0 0,.string ⟨#[]⟩,.int .i64 0,.int .i64 0,.slice none 0 0] 39)).alloc (.cells #[.int .i64 0,.string ⟨#[]⟩,.slice none 0 0,.string ⟨#[]⟩,.slice none 0 0,.slice none 0 0,.slice none 0 0,.string ⟨#[]⟩,.int .i64 0,.int .i64 0,.slice none 0 0] 39)):=balloc (balloc (Below.refl _ _) _) _
 have hf:FI w ((w.alloc (.cells #[.int .i64 K,.string ⟨#[]⟩,.slice none 0 0,.string ⟨#[]⟩,.slice none 0 0,.slice none 0 0,.slice none 0 0,.string ⟨#[]⟩,.int .i64 0,.int .i64 0,.slice none 0 0] 39)).alloc (.cells #[.int .i64 0,.string ⟨#[]⟩,.slice none 0 0,.string ⟨#[]⟩,.slice none 0 0,.slice none 0 0,.slice none 0 0,.string ⟨#[]⟩,.int .i64 0,.int .i64 0,.slice none 0 0] 39)) b vt (.ok c) #[.int .i64 K,.string ⟨#[]⟩,.slice none 0 0,.string ⟨#[]⟩,.slice none 0 0,.slice none 0 0,.slice none 0 0,.string ⟨#[]⟩,.int .i64 0,.int .i64 0,.slice none 0 0]:=⟨h.keep bk,MT.ofBelow bk,(Blk.new _ _ _).alloc _,blkNew1 _ _ _ _,hg⟩
 obtain⟨W0,hW0⟩:∃ W0,(w.alloc (.cells #[.int .i64 K,.string ⟨#[]⟩,.slice none 0 0,.string ⟨#[]⟩,.slice none 0 0,.slice none 0 0,.slice none 0 0,.string ⟨#[]⟩,.int .i64 0,.int .i64 0,.slice none 0 0] 39)).alloc (.cells #[.int .i64 0,.string ⟨#[]⟩,.slice none 0 0,.string ⟨#[]⟩,.slice none 0 0,.slice none 0 0,.slice none 0 0,.string ⟨#[]⟩,.int .i64 0,.int .i64 0,.slice none 0 0] 39)=W0:=⟨_,rfl⟩
 rw[hW0] at hf
 have HW0:=Lib.hid hW0
 have HF0:=Lib.hid hf
 have HPOST:=Lib.hid hP
 have hf2:∀ (a b c d e f:Value) (w:World),(Instr.field 105 (.agg #[a,b,c,d,e,f]) 2).run Tryz.prog w=.ok (.agg #[c,d,e]) w:=fun _ _ _ _ _ _ _=>by kernel_rfl
 have hf1:∀ (a b c d e f:Value) (w:World),(Instr.field 105 (.agg #[a,b,c,d,e,f]) 1).run Tryz.prog w=.ok b w:=fun _ _ _ _ _ _ _=>by kernel_rfl
 have hf3:∀ (a b c:Value) (w:World),(Instr.field 69 (.agg #[a,b,c]) 1).run Tryz.prog w=.ok b w:=fun _ _ _ _=>by kernel_rfl
 clear h bk hf hW0 hP
 go_enter Tryz.func59,Tryz.ntmps59
 go_upto_region 1 with fail
 rw[HW0.out]
 go_wp2_with fail
 refine wp_loop_rounds 2 ?_
 rw[rounds_succ]
 have hc:=want_ln HF0.out.ln HF0.out.g 1 []
 have hgd:=want_good (x:=[]) (k:=1) (by decide) HF0.out.g
 obtain⟨T1,hT1⟩:∃ T,(wantS 1 [] (.ok c)).1=T:=⟨_,rfl⟩
 obtain⟨S1,hS1⟩:∃ S,(wantS 1 [] (.ok c)).2=S:=⟨_,rfl⟩
 rw[hS1] at hc hgd
 rw[hT1] at hc
 unfold Tok.v at hc
 have HC:=Lib.hid hc
 have HG1:=Lib.hid hgd
 have HT1:=Lib.hid hT1
 have HS1:=Lib.hid hS1
 clear hc hgd hT1 hS1
 go_wp2_with fail
 refine HC.out.mono ?_
 rintro e w1 ⟨rfl,hl,hm⟩
 have hf1:=HF0.out.line hm hl HG1.out
 clear HC hl hm HF0
 have pl:=hf1.q.lt
 have k7:=hf1.q.cell 7
 have y7:=hf1.q.frozen 7
 simp only[List.getElem?_toArray,List.getElem?_cons_zero,List.getElem?_cons_succ] at k7
 have hs1:FI w (w1.setCell ⟨w.heap.size,7,none⟩ (.string ⟨T1.x.toArray⟩)) b vt S1 #[.int .i64 K,.string ⟨#[]⟩,.slice none 0 0,.string ⟨#[]⟩,.slice none 0 0,.slice none 0 0,.slice none 0 0,.string ⟨T1.x.toArray⟩,.int .i64 0,.int .i64 0,.slice none 0 0]:=hf1.store (Nat.le_of_lt hbl) 7 (.string ⟨T1.x.toArray⟩)
 have HF1:=Lib.hid hs1
 clear hf1 hs1
 go_wp2_with fail
 rw[rounds_succ]
 clear pl k7 y7
 have pl:=HF1.out.q.lt
 have k0:=HF1.out.q.cell 0
 have y0:=HF1.out.q.frozen 0
 have k1:=HF1.out.q.cell 1
 have y1:=HF1.out.q.frozen 1
 have k2:=HF1.out.q.cell 2
 have y2:=HF1.out.q.frozen 2
 have k3:=HF1.out.q.cell 3
 have y3:=HF1.out.q.frozen 3
 have k4:=HF1.out.q.cell 4
 have y4:=HF1.out.q.frozen 4
 have k5:=HF1.out.q.cell 5
 have y5:=HF1.out.q.frozen 5
 have k6:=HF1.out.q.cell 6
 have y6:=HF1.out.q.frozen 6
 have k7:=HF1.out.q.cell 7
 have y7:=HF1.out.q.frozen 7
 have k8:=HF1.out.q.cell 8
 have y8:=HF1.out.q.frozen 8
 have k9:=HF1.out.q.cell 9
 have y9:=HF1.out.q.frozen 9
 have k10:=HF1.out.q.cell 10
 have y10:=HF1.out.q.frozen 10
 simp only[List.getElem?_toArray,List.getElem?_cons_zero,List.getElem?_cons_succ] at k0 k1 k2 k3 k4 k5 k6 k7 k8 k9 k10
 have hz:=HF1.out.z
 have lz:=hz.lt
 have HZ:=Lib.hid hz
 have hcm:∀ w4,Blk w4 (w.heap.size+1) 39 #[.int .i64 K,.string ⟨#[]⟩,.slice none 0 0,.string ⟨#[]⟩,.slice none 0 0,.slice none 0 0,.slice none 0 0,.string ⟨T1.x.toArray⟩,.int .i64 0,.int .i64 0,.slice none 0 0]->Mod (fun k=>k=w.heap.size+1) (w1.setCell ⟨w.heap.size,7,none⟩ (.string ⟨T1.x.toArray⟩)) w4->FPost w b vt P (.returned (.agg #[.int .i64 K,.string ⟨#[]⟩,.slice none 0 0,.string ⟨#[]⟩,.slice none 0 0,.slice none 0 0,.slice none 0 0,.string ⟨T1.x.toArray⟩,.int .i64 0,.int .i64 0,.slice none 0 0])) w4:=by
  intro w4 hb4 hm4
  have m4:MT 0 [39] (w1.setCell ⟨w.heap.size,7,none⟩ (.string ⟨T1.x.toArray⟩)) w4:=MT.ofMod hm4 HZ.out (by simp) (Nat.zero_le _)
  exact⟨_,{ cmd0 with kind:=K,nm:=T1.x },S1,rfl,⟨_,_,_,_,_,rfl,World.ownsRow_nil _ _ _ _,World.ownsRow_nil _ _ _ _,⟨[],World.ownsRow_nil _ _ _ _,trivial⟩,⟨[],World.ownsRow_nil _ _ _ _,trivial⟩,World.ownsRow_nil _ _ _ _⟩,HF1.out.ln.mt m4 (by decide) (by decide),HF1.out.g,HF1.out.mt.own hm4 (by omega),law_n HPOST.out hg HT1.out HS1.out⟩
 have HCM:=Lib.hid hcm
 clear hcm hz
 go_wp2_with (refine wpList_store_blk rfl 39 _ _ rfl (w.heap.size+1) 39 _ _ rfl rfl HZ.out (by kernel_rfl) rfl (by simp [Value.oneCell']) ?_)
 intro w4 hb4 hm4 hz4
 clear pl k0 y0 k1 y1 k2 y2 k3 y3 k4 y4 k5 y5 k6 y6 k7 y7 k8 y8 k9 y9 k10 y10
 have r0:=hb4.cell 0
 have r1:=hb4.cell 1
 have r2:=hb4.cell 2
 have r3:=hb4.cell 3
 have r4:=hb4.cell 4
 have r5:=hb4.cell 5
 have r6:=hb4.cell 6
 have r7:=hb4.cell 7
 have r8:=hb4.cell 8
 have r9:=hb4.cell 9
 have r10:=hb4.cell 10
 simp only[List.getElem?_toArray,List.getElem?_cons_zero,List.getElem?_cons_succ] at r0 r1 r2 r3 r4 r5 r6 r7 r8 r9 r10
 have HP4:=Lib.hid (HCM.out w4 hb4 hm4)
 clear hb4 hm4 hz4
 go_wp2_with fail
 exact bodyPost_ret (v:=.agg #[.int .i64 K,.string ⟨#[]⟩,.slice none 0 0,.string ⟨#[]⟩,.slice none 0 0,.slice none 0 0,.slice none 0 0,.string ⟨T1.x.toArray⟩,.int .i64 0,.int .i64 0,.slice none 0 0]) (by simp [results,Tryz.results59,go_sem, *]) rfl HP4.out
set_option maxHeartbeats 8000000 in
set_option maxRecDepth 100000 in
theorem fld_0 (w:World) (b:Nat) (vt:Value) (c:List Tok) (K:Int) (h:Ln w b (.ok c) vt) (hg:Good (.ok c)) (P:PR Cmd) (hP:P=.ok { cmd0 with kind:=K } c)
 :
  Calls Tryz.prog 59 #[.pointer (some ⟨b,0,none⟩),.agg #[.int .i64 K,.string ⟨#[]⟩,.slice none 0 0,.string ⟨#[]⟩,.slice none 0 0,.slice none 0 0,.slice none 0 0,.string ⟨#[]⟩,.int .i64 0,.int .i64 0,.slice none 0 0],.string ⟨#[]⟩] w (FPost w b vt P):=by
 have hbl:=h.lt
 have bk:Below w.heap.size w ((w.alloc (.cells #[.int .i64 K,.string ⟨#[]⟩,.slice none 0 0,.string ⟨#[]⟩,.slice none 0 0,.slice none 0 0,.slice none 0 0,.string ⟨#[]⟩,.int .i64 0,.int .i64 0,.slice none 0 0] 39)).alloc (.cells #[.int .i64 0,.string ⟨#[]⟩,.slice none 0 0,.string ⟨#[]⟩,.slice none 0 0,.slice none 0 0,.slice none 0 0,.string ⟨#[]⟩,.int .i64 0,.int .i64 0,.slice none 0 0] 39)):=balloc (balloc (Below.refl _ _) _) _
 have hf:FI w ((w.alloc (.cells #[.int .i64 K,.string ⟨#[]⟩,.slice none 0 0,.string ⟨#[]⟩,.slice none 0 0,.slice none 0 0,.slice none 0 0,.string ⟨#[]⟩,.int .i64 0,.int .i64 0,.slice none 0 0] 39)).alloc (.cells #[.int .i64 0,.string ⟨#[]⟩,.slice none 0 0,.string ⟨#[]⟩,.slice none 0 0,.slice none 0 0,.slice none 0 0,.string ⟨#[]⟩,.int .i64 0,.int .i64 0,.slice none 0 0] 39)) b vt (.ok c) #[.int .i64 K,.string ⟨#[]⟩,.slice none 0 0,.string ⟨#[]⟩,.slice none 0 0,.slice none 0 0,.slice none 0 0,.string ⟨#[]⟩,.int .i64 0,.int .i64 0,.slice none 0 0]:=⟨h.keep bk,MT.ofBelow bk,(Blk.new _ _ _).alloc _,blkNew1 _ _ _ _,hg⟩
 obtain⟨W0,hW0⟩:∃ W0,(w.alloc (.cells #[.int .i64 K,.string ⟨#[]⟩,.slice none 0 0,.string ⟨#[]⟩,.slice none 0 0,.slice none 0 0,.slice none 0 0,.string ⟨#[]⟩,.int .i64 0,.int .i64 0,.slice none 0 0] 39)).alloc (.cells #[.int .i64 0,.string ⟨#[]⟩,.slice none 0 0,.string ⟨#[]⟩,.slice none 0 0,.slice none 0 0,.slice none 0 0,.string ⟨#[]⟩,.int .i64 0,.int .i64 0,.slice none 0 0] 39)=W0:=⟨_,rfl⟩
 rw[hW0] at hf
 have HW0:=Lib.hid hW0
 have HF0:=Lib.hid hf
 have HPOST:=Lib.hid hP
 have hf2:∀ (a b c d e f:Value) (w:World),(Instr.field 105 (.agg #[a,b,c,d,e,f]) 2).run Tryz.prog w=.ok (.agg #[c,d,e]) w:=fun _ _ _ _ _ _ _=>by kernel_rfl
 have hf1:∀ (a b c d e f:Value) (w:World),(Instr.field 105 (.agg #[a,b,c,d,e,f]) 1).run Tryz.prog w=.ok b w:=fun _ _ _ _ _ _ _=>by kernel_rfl
 have hf3:∀ (a b c:Value) (w:World),(Instr.field 69 (.agg #[a,b,c]) 1).run Tryz.prog w=.ok b w:=fun _ _ _ _=>by kernel_rfl
 clear h bk hf hW0 hP
 go_enter Tryz.func59,Tryz.ntmps59
 go_upto_region 1 with fail
 rw[HW0.out]
 go_wp2_with fail
 refine wp_loop_rounds 1 ?_
 rw[rounds_succ]
 have pl:=HF0.out.q.lt
 have k0:=HF0.out.q.cell 0
 have y0:=HF0.out.q.frozen 0
 have k1:=HF0.out.q.cell 1
 have y1:=HF0.out.q.frozen 1
 have k2:=HF0.out.q.cell 2
 have y2:=HF0.out.q.frozen 2
 have k3:=HF0.out.q.cell 3
 have y3:=HF0.out.q.frozen 3
 have k4:=HF0.out.q.cell 4
 have y4:=HF0.out.q.frozen 4
 have k5:=HF0.out.q.cell 5
 have y5:=HF0.out.q.frozen 5
 have k6:=HF0.out.q.cell 6
 have y6:=HF0.out.q.frozen 6
 have k7:=HF0.out.q.cell 7
 have y7:=HF0.out.q.frozen 7
 have k8:=HF0.out.q.cell 8
 have y8:=HF0.out.q.frozen 8
 have k9:=HF0.out.q.cell 9
 have y9:=HF0.out.q.frozen 9
 have k10:=HF0.out.q.cell 10
 have y10:=HF0.out.q.frozen 10
 simp only[List.getElem?_toArray,List.getElem?_cons_zero,List.getElem?_cons_succ] at k0 k1 k2 k3 k4 k5 k6 k7 k8 k9 k10
 have hz:=HF0.out.z
 have lz:=hz.lt
 have HZ:=Lib.hid hz
 have hcm:∀ w4,Blk w4 (w.heap.size+1) 39 #[.int .i64 K,.string ⟨#[]⟩,.slice none 0 0,.string ⟨#[]⟩,.slice none 0 0,.slice none 0 0,.slice none 0 0,.string ⟨#[]⟩,.int .i64 0,.int .i64 0,.slice none 0 0]->Mod (fun k=>k=w.heap.size+1) W0 w4->FPost w b vt P (.returned (.agg #[.int .i64 K,.string ⟨#[]⟩,.slice none 0 0,.string ⟨#[]⟩,.slice none 0 0,.slice none 0 0,.slice none 0 0,.string ⟨#[]⟩,.int .i64 0,.int .i64 0,.slice none 0 0])) w4:=by
  intro w4 hb4 hm4
  have m4:MT 0 [39] W0 w4:=MT.ofMod hm4 HZ.out (by simp) (Nat.zero_le _)
  exact⟨_,{ cmd0 with kind:=K },.ok c,rfl,⟨_,_,_,_,_,rfl,World.ownsRow_nil _ _ _ _,World.ownsRow_nil _ _ _ _,⟨[],World.ownsRow_nil _ _ _ _,trivial⟩,⟨[],World.ownsRow_nil _ _ _ _,trivial⟩,World.ownsRow_nil _ _ _ _⟩,HF0.out.ln.mt m4 (by decide) (by decide),HF0.out.g,HF0.out.mt.own hm4 (by omega),(by rw[HPOST.out];exact⟨rfl,rfl⟩)⟩
 have HCM:=Lib.hid hcm
 clear hcm hz
 go_wp2_with (refine wpList_store_blk rfl 39 _ _ rfl (w.heap.size+1) 39 _ _ rfl rfl HZ.out (by kernel_rfl) rfl (by simp [Value.oneCell']) ?_)
 intro w4 hb4 hm4 hz4
 clear pl k0 y0 k1 y1 k2 y2 k3 y3 k4 y4 k5 y5 k6 y6 k7 y7 k8 y8 k9 y9 k10 y10
 have r0:=hb4.cell 0
 have r1:=hb4.cell 1
 have r2:=hb4.cell 2
 have r3:=hb4.cell 3
 have r4:=hb4.cell 4
 have r5:=hb4.cell 5
 have r6:=hb4.cell 6
 have r7:=hb4.cell 7
 have r8:=hb4.cell 8
 have r9:=hb4.cell 9
 have r10:=hb4.cell 10
 simp only[List.getElem?_toArray,List.getElem?_cons_zero,List.getElem?_cons_succ] at r0 r1 r2 r3 r4 r5 r6 r7 r8 r9 r10
 have HP4:=Lib.hid (HCM.out w4 hb4 hm4)
 clear hb4 hm4 hz4
 go_wp2_with fail
 exact bodyPost_ret (v:=.agg #[.int .i64 K,.string ⟨#[]⟩,.slice none 0 0,.string ⟨#[]⟩,.slice none 0 0,.slice none 0 0,.slice none 0 0,.string ⟨#[]⟩,.int .i64 0,.int .i64 0,.slice none 0 0]) (by simp [results,Tryz.results59,go_sem, *]) rfl HP4.out
set_option maxHeartbeats 8000000 in
set_option maxRecDepth 100000 in
theorem fld_i (w:World) (b:Nat) (vt:Value) (c:List Tok) (K:Int) (h:Ln w b (.ok c) vt) (hg:Good (.ok c)) (P:PR Cmd) (hP:P=bindP (numP c) fun i c1=>.ok { cmd0 with kind:=K,id:=i } c1)
 :
  Calls Tryz.prog 59 #[.pointer (some ⟨b,0,none⟩),.agg #[.int .i64 K,.string ⟨#[]⟩,.slice none 0 0,.string ⟨#[]⟩,.slice none 0 0,.slice none 0 0,.slice none 0 0,.string ⟨#[]⟩,.int .i64 0,.int .i64 0,.slice none 0 0],.string ⟨#[105]⟩] w (FPost w b vt P):=by
 have hbl:=h.lt
 have bk:Below w.heap.size w ((w.alloc (.cells #[.int .i64 K,.string ⟨#[]⟩,.slice none 0 0,.string ⟨#[]⟩,.slice none 0 0,.slice none 0 0,.slice none 0 0,.string ⟨#[]⟩,.int .i64 0,.int .i64 0,.slice none 0 0] 39)).alloc (.cells #[.int .i64 0,.string ⟨#[]⟩,.slice none 0 0,.string ⟨#[]⟩,.slice none 0 0,.slice none 0 0,.slice none 0 0,.string ⟨#[]⟩,.int .i64 0,.int .i64 0,.slice none 0 0] 39)):=balloc (balloc (Below.refl _ _) _) _
 have hf:FI w ((w.alloc (.cells #[.int .i64 K,.string ⟨#[]⟩,.slice none 0 0,.string ⟨#[]⟩,.slice none 0 0,.slice none 0 0,.slice none 0 0,.string ⟨#[]⟩,.int .i64 0,.int .i64 0,.slice none 0 0] 39)).alloc (.cells #[.int .i64 0,.string ⟨#[]⟩,.slice none 0 0,.string ⟨#[]⟩,.slice none 0 0,.slice none 0 0,.slice none 0 0,.string ⟨#[]⟩,.int .i64 0,.int .i64 0,.slice none 0 0] 39)) b vt (.ok c) #[.int .i64 K,.string ⟨#[]⟩,.slice none 0 0,.string ⟨#[]⟩,.slice none 0 0,.slice none 0 0,.slice none 0 0,.string ⟨#[]⟩,.int .i64 0,.int .i64 0,.slice none 0 0]:=⟨h.keep bk,MT.ofBelow bk,(Blk.new _ _ _).alloc _,blkNew1 _ _ _ _,hg⟩
 obtain⟨W0,hW0⟩:∃ W0,(w.alloc (.cells #[.int .i64 K,.string ⟨#[]⟩,.slice none 0 0,.string ⟨#[]⟩,.slice none 0 0,.slice none 0 0,.slice none 0 0,.string ⟨#[]⟩,.int .i64 0,.int .i64 0,.slice none 0 0] 39)).alloc (.cells #[.int .i64 0,.string ⟨#[]⟩,.slice none 0 0,.string ⟨#[]⟩,.slice none 0 0,.slice none 0 0,.slice none 0 0,.string ⟨#[]⟩,.int .i64 0,.int .i64 0,.slice none 0 0] 39)=W0:=⟨_,rfl⟩
 rw[hW0] at hf
 have HW0:=Lib.hid hW0
 have HF0:=Lib.hid hf
 have HPOST:=Lib.hid hP
 have hf2:∀ (a b c d e f:Value) (w:World),(Instr.field 105 (.agg #[a,b,c,d,e,f]) 2).run Tryz.prog w=.ok (.agg #[c,d,e]) w:=fun _ _ _ _ _ _ _=>by kernel_rfl
 have hf1:∀ (a b c d e f:Value) (w:World),(Instr.field 105 (.agg #[a,b,c,d,e,f]) 1).run Tryz.prog w=.ok b w:=fun _ _ _ _ _ _ _=>by kernel_rfl
 have hf3:∀ (a b c:Value) (w:World),(Instr.field 69 (.agg #[a,b,c]) 1).run Tryz.prog w=.ok b w:=fun _ _ _ _=>by kernel_rfl
 clear h bk hf hW0 hP
 go_enter Tryz.func59,Tryz.ntmps59
 go_upto_region 1 with fail
 rw[HW0.out]
 go_wp2_with fail
 refine wp_loop_rounds 2 ?_
 rw[rounds_succ]
 have hx:=next_gen HF0.out.ln
 have HX:=Lib.hid hx
 clear hx
 go_wp2_with fail
 refine HX.out.mono ?_
 rintro e v1 ⟨⟨t1,rfl,ht1⟩,hb⟩
 have HE1:=Lib.hid ht1
 have bka:Below v1.heap.size v1 (v1.alloc (.cells #[.int .i64 t1.k,.string ⟨t1.x.toArray⟩,.int .i64 t1.vk,.int .i64 t1.vn,.string ⟨t1.vt.toArray⟩,.int .i64 t1.p] 105)):=balloc (Below.refl _ _) _
 have hfa:FI w (v1.alloc (.cells #[.int .i64 t1.k,.string ⟨t1.x.toArray⟩,.int .i64 t1.vk,.int .i64 t1.vn,.string ⟨t1.vt.toArray⟩,.int .i64 t1.p] 105)) b vt (.ok c) #[.int .i64 K,.string ⟨#[]⟩,.slice none 0 0,.string ⟨#[]⟩,.slice none 0 0,.slice none 0 0,.slice none 0 0,.string ⟨#[]⟩,.int .i64 0,.int .i64 0,.slice none 0 0]:=(HF0.out.keep hb).keep bka
 have hmv:MT b [101] (v1.alloc (.cells #[.int .i64 t1.k,.string ⟨t1.x.toArray⟩,.int .i64 t1.vk,.int .i64 t1.vn,.string ⟨t1.vt.toArray⟩,.int .i64 t1.p] 105)) (v1.alloc (.cells #[.int .i64 t1.k,.string ⟨t1.x.toArray⟩,.int .i64 t1.vk,.int .i64 t1.vn,.string ⟨t1.vt.toArray⟩,.int .i64 t1.p] 105)):=MT.refl _
 obtain⟨S1,hS1⟩:∃ S,(wantS 2 [] (numS t1 (.ok c))).2=S:=⟨_,rfl⟩
 obtain⟨T1,hT1⟩:∃ T,(wantS 2 [] (numS t1 (.ok c))).1=T:=⟨_,rfl⟩
 have hgn:=numS_nb (t:=t1) hfa.g
 have hgd:=want_good (x:=[]) (k:=2) (by decide) hgn
 have hwt:=fun W (hW:Ln W b (numS t1 (.ok c)) vt)=>want_ln hW hgn 2 []
 rw[hS1] at hgd
 simp only[hS1,hT1] at hwt
 unfold Tok.v at hwt
 have hfl:=fail_ln hfa.ln (fun a e q=>by have hq:=hfa.g;rw[q] at hq;exact hq) t1.p 80
 have HFA1:=Lib.hid hfa
 have HWT:=Lib.hid hwt
 have HFL:=Lib.hid hfl
 have HG1:=Lib.hid hgd
 have HT1:=Lib.hid hT1
 have HS1:=Lib.hid hS1
 clear bka hfa hmv hgn hgd hwt hfl hT1 hS1 ht1 hb HX HF0
 unfold Tok.v
 obtain⟨tk1,tx1,tv1,tn1,tt1,tp1⟩:=t1
 simp only at *
 have h3w:(tk1=2/\tv1=1)∨(tk1=2/\¬ tv1=1)∨¬ tk1=2:=by omega
 rcases h3w with ⟨hk1,hv1⟩ | ⟨hk1,hv1⟩ | hk1
 case' inl =>
  subst hk1 hv1
  have hl0:=HFA1.out.ln
  rw[show .ok c=numS ⟨2,tx1,1,tn1,tt1,tp1⟩ (.ok c) from (if_pos ⟨rfl,rfl⟩).symm] at hl0
  have HWX:=Lib.hid (HWT.out _ hl0)
  clear hl0 HFL HWT
  go_wp2_with fail
  refine HWX.out.mono ?_
  rintro e w1 ⟨rfl,hl,hm⟩
  have hf1:=HFA1.out.line hm hl HG1.out
  clear HWX hl hm HFA1
 case' inr.inl =>
  subst hk1
  have hn:(tv1 != 1)=true:=by simpa using hv1
  go_wp2_with fail
  refine HFL.out.mono ?_
  rintro e u1 ⟨rfl,hl0,hm0⟩
  rw[show failS tp1 80 (.ok c)=numS ⟨2,tx1,tv1,tn1,tt1,tp1⟩ (.ok c) from (if_neg (fun q=>hv1 q.2)).symm] at hl0
  have HWX:=Lib.hid (HWT.out _ hl0)
  have HM0:=Lib.hid hm0
  clear hl0 hm0 HFL HWT
  go_wp2_with fail
  refine HWX.out.mono ?_
  rintro e w1 ⟨rfl,hl,hm⟩
  have hf1:=HFA1.out.line (HM0.out.trans hm) hl HG1.out
  clear HWX hl hm HFA1 HM0 hn hv1
 case' inr.inr =>
  have hn:(tk1 != 2)=true:=by simpa using hk1
  go_wp2_with fail
  refine HFL.out.mono ?_
  rintro e u1 ⟨rfl,hl0,hm0⟩
  rw[show failS tp1 80 (.ok c)=numS ⟨tk1,tx1,tv1,tn1,tt1,tp1⟩ (.ok c) from (if_neg (fun q=>hk1 q.1)).symm] at hl0
  have HWX:=Lib.hid (HWT.out _ hl0)
  have HM0:=Lib.hid hm0
  clear hl0 hm0 HFL HWT
  go_wp2_with fail
  refine HWX.out.mono ?_
  rintro e w1 ⟨rfl,hl,hm⟩
  have hf1:=HFA1.out.line (HM0.out.trans hm) hl HG1.out
  clear HWX hl hm HFA1 HM0 hn hk1
 all_goals
  have pl:=hf1.q.lt
  have k8:=hf1.q.cell 8
  have y8:=hf1.q.frozen 8
  simp only[List.getElem?_toArray,List.getElem?_cons_zero,List.getElem?_cons_succ] at k8
  have hs1:FI w (w1.setCell ⟨w.heap.size,8,none⟩ (.int .i64 T1.vn)) b vt S1 #[.int .i64 K,.string ⟨#[]⟩,.slice none 0 0,.string ⟨#[]⟩,.slice none 0 0,.slice none 0 0,.slice none 0 0,.string ⟨#[]⟩,.int .i64 T1.vn,.int .i64 0,.slice none 0 0]:=hf1.store (Nat.le_of_lt hbl) 8 (.int .i64 T1.vn)
  have HF1:=Lib.hid hs1
  clear hf1 hs1
  go_wp2_with fail
  rw[rounds_succ]
  clear pl k8 y8
  have pl:=HF1.out.q.lt
  have k0:=HF1.out.q.cell 0
  have y0:=HF1.out.q.frozen 0
  have k1:=HF1.out.q.cell 1
  have y1:=HF1.out.q.frozen 1
  have k2:=HF1.out.q.cell 2
  have y2:=HF1.out.q.frozen 2
  have k3:=HF1.out.q.cell 3
  have y3:=HF1.out.q.frozen 3
  have k4:=HF1.out.q.cell 4
  have y4:=HF1.out.q.frozen 4
  have k5:=HF1.out.q.cell 5
  have y5:=HF1.out.q.frozen 5
  have k6:=HF1.out.q.cell 6
  have y6:=HF1.out.q.frozen 6
  have k7:=HF1.out.q.cell 7
  have y7:=HF1.out.q.frozen 7
  have k8:=HF1.out.q.cell 8
  have y8:=HF1.out.q.frozen 8
  have k9:=HF1.out.q.cell 9
  have y9:=HF1.out.q.frozen 9
  have k10:=HF1.out.q.cell 10
  have y10:=HF1.out.q.frozen 10
  simp only[List.getElem?_toArray,List.getElem?_cons_zero,List.getElem?_cons_succ] at k0 k1 k2 k3 k4 k5 k6 k7 k8 k9 k10
  have hz:=HF1.out.z
  have lz:=hz.lt
  have HZ:=Lib.hid hz
  have hcm:∀ w4,Blk w4 (w.heap.size+1) 39 #[.int .i64 K,.string ⟨#[]⟩,.slice none 0 0,.string ⟨#[]⟩,.slice none 0 0,.slice none 0 0,.slice none 0 0,.string ⟨#[]⟩,.int .i64 T1.vn,.int .i64 0,.slice none 0 0]->Mod (fun k=>k=w.heap.size+1) (w1.setCell ⟨w.heap.size,8,none⟩ (.int .i64 T1.vn)) w4->FPost w b vt P (.returned (.agg #[.int .i64 K,.string ⟨#[]⟩,.slice none 0 0,.string ⟨#[]⟩,.slice none 0 0,.slice none 0 0,.slice none 0 0,.string ⟨#[]⟩,.int .i64 T1.vn,.int .i64 0,.slice none 0 0])) w4:=by
   intro w4 hb4 hm4
   have m4:MT 0 [39] (w1.setCell ⟨w.heap.size,8,none⟩ (.int .i64 T1.vn)) w4:=MT.ofMod hm4 HZ.out (by simp) (Nat.zero_le _)
   exact⟨_,{ cmd0 with kind:=K,id:=T1.vn },S1,rfl,⟨_,_,_,_,_,rfl,World.ownsRow_nil _ _ _ _,World.ownsRow_nil _ _ _ _,⟨[],World.ownsRow_nil _ _ _ _,trivial⟩,⟨[],World.ownsRow_nil _ _ _ _,trivial⟩,World.ownsRow_nil _ _ _ _⟩,HF1.out.ln.mt m4 (by decide) (by decide),HF1.out.g,HF1.out.mt.own hm4 (by omega),law_i HPOST.out hg HE1.out HT1.out HS1.out⟩
  have HCM:=Lib.hid hcm
  clear hcm hz
  go_wp2_with (refine wpList_store_blk rfl 39 _ _ rfl (w.heap.size+1) 39 _ _ rfl rfl HZ.out (by kernel_rfl) rfl (by simp [Value.oneCell']) ?_)
  intro w4 hb4 hm4 hz4
  clear pl k0 y0 k1 y1 k2 y2 k3 y3 k4 y4 k5 y5 k6 y6 k7 y7 k8 y8 k9 y9 k10 y10
  have r0:=hb4.cell 0
  have r1:=hb4.cell 1
  have r2:=hb4.cell 2
  have r3:=hb4.cell 3
  have r4:=hb4.cell 4
  have r5:=hb4.cell 5
  have r6:=hb4.cell 6
  have r7:=hb4.cell 7
  have r8:=hb4.cell 8
  have r9:=hb4.cell 9
  have r10:=hb4.cell 10
  simp only[List.getElem?_toArray,List.getElem?_cons_zero,List.getElem?_cons_succ] at r0 r1 r2 r3 r4 r5 r6 r7 r8 r9 r10
  have HP4:=Lib.hid (HCM.out w4 hb4 hm4)
  clear hb4 hm4 hz4
  go_wp2_with fail
  exact bodyPost_ret (v:=.agg #[.int .i64 K,.string ⟨#[]⟩,.slice none 0 0,.string ⟨#[]⟩,.slice none 0 0,.slice none 0 0,.slice none 0 0,.string ⟨#[]⟩,.int .i64 T1.vn,.int .i64 0,.slice none 0 0]) (by simp [results,Tryz.results59,go_sem, *]) rfl HP4.out
set_option maxHeartbeats 8000000 in
set_option maxRecDepth 100000 in
theorem fld_ik (w:World) (b:Nat) (vt:Value) (c:List Tok) (K:Int) (h:Ln w b (.ok c) vt) (hg:Good (.ok c)) (P:PR Cmd) (hP:P=bindP (numP c) fun i c1=>bindP (numP c1) fun j c2=>.ok { cmd0 with kind:=K,id:=i,n:=j } c2)
 :
  Calls Tryz.prog 59 #[.pointer (some ⟨b,0,none⟩),.agg #[.int .i64 K,.string ⟨#[]⟩,.slice none 0 0,.string ⟨#[]⟩,.slice none 0 0,.slice none 0 0,.slice none 0 0,.string ⟨#[]⟩,.int .i64 0,.int .i64 0,.slice none 0 0],.string ⟨#[105,107]⟩] w (FPost w b vt P):=by
 have hbl:=h.lt
 have bk:Below w.heap.size w ((w.alloc (.cells #[.int .i64 K,.string ⟨#[]⟩,.slice none 0 0,.string ⟨#[]⟩,.slice none 0 0,.slice none 0 0,.slice none 0 0,.string ⟨#[]⟩,.int .i64 0,.int .i64 0,.slice none 0 0] 39)).alloc (.cells #[.int .i64 0,.string ⟨#[]⟩,.slice none 0 0,.string ⟨#[]⟩,.slice none 0 0,.slice none 0 0,.slice none 0 0,.string ⟨#[]⟩,.int .i64 0,.int .i64 0,.slice none 0 0] 39)):=balloc (balloc (Below.refl _ _) _) _
 have hf:FI w ((w.alloc (.cells #[.int .i64 K,.string ⟨#[]⟩,.slice none 0 0,.string ⟨#[]⟩,.slice none 0 0,.slice none 0 0,.slice none 0 0,.string ⟨#[]⟩,.int .i64 0,.int .i64 0,.slice none 0 0] 39)).alloc (.cells #[.int .i64 0,.string ⟨#[]⟩,.slice none 0 0,.string ⟨#[]⟩,.slice none 0 0,.slice none 0 0,.slice none 0 0,.string ⟨#[]⟩,.int .i64 0,.int .i64 0,.slice none 0 0] 39)) b vt (.ok c) #[.int .i64 K,.string ⟨#[]⟩,.slice none 0 0,.string ⟨#[]⟩,.slice none 0 0,.slice none 0 0,.slice none 0 0,.string ⟨#[]⟩,.int .i64 0,.int .i64 0,.slice none 0 0]:=⟨h.keep bk,MT.ofBelow bk,(Blk.new _ _ _).alloc _,blkNew1 _ _ _ _,hg⟩
 obtain⟨W0,hW0⟩:∃ W0,(w.alloc (.cells #[.int .i64 K,.string ⟨#[]⟩,.slice none 0 0,.string ⟨#[]⟩,.slice none 0 0,.slice none 0 0,.slice none 0 0,.string ⟨#[]⟩,.int .i64 0,.int .i64 0,.slice none 0 0] 39)).alloc (.cells #[.int .i64 0,.string ⟨#[]⟩,.slice none 0 0,.string ⟨#[]⟩,.slice none 0 0,.slice none 0 0,.slice none 0 0,.string ⟨#[]⟩,.int .i64 0,.int .i64 0,.slice none 0 0] 39)=W0:=⟨_,rfl⟩
 rw[hW0] at hf
 have HW0:=Lib.hid hW0
 have HF0:=Lib.hid hf
 have HPOST:=Lib.hid hP
 have hf2:∀ (a b c d e f:Value) (w:World),(Instr.field 105 (.agg #[a,b,c,d,e,f]) 2).run Tryz.prog w=.ok (.agg #[c,d,e]) w:=fun _ _ _ _ _ _ _=>by kernel_rfl
 have hf1:∀ (a b c d e f:Value) (w:World),(Instr.field 105 (.agg #[a,b,c,d,e,f]) 1).run Tryz.prog w=.ok b w:=fun _ _ _ _ _ _ _=>by kernel_rfl
 have hf3:∀ (a b c:Value) (w:World),(Instr.field 69 (.agg #[a,b,c]) 1).run Tryz.prog w=.ok b w:=fun _ _ _ _=>by kernel_rfl
 clear h bk hf hW0 hP
 go_enter Tryz.func59,Tryz.ntmps59
 go_upto_region 1 with fail
 rw[HW0.out]
 go_wp2_with fail
 refine wp_loop_rounds 3 ?_
 rw[rounds_succ]
 have hx:=next_gen HF0.out.ln
 have HX:=Lib.hid hx
 clear hx
 go_wp2_with fail
 refine HX.out.mono ?_
 rintro e v1 ⟨⟨t1,rfl,ht1⟩,hb⟩
 have HE1:=Lib.hid ht1
 have bka:Below v1.heap.size v1 (v1.alloc (.cells #[.int .i64 t1.k,.string ⟨t1.x.toArray⟩,.int .i64 t1.vk,.int .i64 t1.vn,.string ⟨t1.vt.toArray⟩,.int .i64 t1.p] 105)):=balloc (Below.refl _ _) _
 have hfa:FI w (v1.alloc (.cells #[.int .i64 t1.k,.string ⟨t1.x.toArray⟩,.int .i64 t1.vk,.int .i64 t1.vn,.string ⟨t1.vt.toArray⟩,.int .i64 t1.p] 105)) b vt (.ok c) #[.int .i64 K,.string ⟨#[]⟩,.slice none 0 0,.string ⟨#[]⟩,.slice none 0 0,.slice none 0 0,.slice none 0 0,.string ⟨#[]⟩,.int .i64 0,.int .i64 0,.slice none 0 0]:=(HF0.out.keep hb).keep bka
 have hmv:MT b [101] (v1.alloc (.cells #[.int .i64 t1.k,.string ⟨t1.x.toArray⟩,.int .i64 t1.vk,.int .i64 t1.vn,.string ⟨t1.vt.toArray⟩,.int .i64 t1.p] 105)) (v1.alloc (.cells #[.int .i64 t1.k,.string ⟨t1.x.toArray⟩,.int .i64 t1.vk,.int .i64 t1.vn,.string ⟨t1.vt.toArray⟩,.int .i64 t1.p] 105)):=MT.refl _
 obtain⟨S1,hS1⟩:∃ S,(wantS 2 [] (numS t1 (.ok c))).2=S:=⟨_,rfl⟩
 obtain⟨T1,hT1⟩:∃ T,(wantS 2 [] (numS t1 (.ok c))).1=T:=⟨_,rfl⟩
 have hgn:=numS_nb (t:=t1) hfa.g
 have hgd:=want_good (x:=[]) (k:=2) (by decide) hgn
 have hwt:=fun W (hW:Ln W b (numS t1 (.ok c)) vt)=>want_ln hW hgn 2 []
 rw[hS1] at hgd
 simp only[hS1,hT1] at hwt
 unfold Tok.v at hwt
 have hfl:=fail_ln hfa.ln (fun a e q=>by have hq:=hfa.g;rw[q] at hq;exact hq) t1.p 80
 have HFA1:=Lib.hid hfa
 have HWT:=Lib.hid hwt
 have HFL:=Lib.hid hfl
 have HG1:=Lib.hid hgd
 have HT1:=Lib.hid hT1
 have HS1:=Lib.hid hS1
 clear bka hfa hmv hgn hgd hwt hfl hT1 hS1 ht1 hb HX HF0
 unfold Tok.v
 obtain⟨tk1,tx1,tv1,tn1,tt1,tp1⟩:=t1
 simp only at *
 have h3w:(tk1=2/\tv1=1)∨(tk1=2/\¬ tv1=1)∨¬ tk1=2:=by omega
 rcases h3w with ⟨hk1,hv1⟩ | ⟨hk1,hv1⟩ | hk1
 case' inl =>
  subst hk1 hv1
  have hl0:=HFA1.out.ln
  rw[show .ok c=numS ⟨2,tx1,1,tn1,tt1,tp1⟩ (.ok c) from (if_pos ⟨rfl,rfl⟩).symm] at hl0
  have HWX:=Lib.hid (HWT.out _ hl0)
  clear hl0 HFL HWT
  go_wp2_with fail
  refine HWX.out.mono ?_
  rintro e w1 ⟨rfl,hl,hm⟩
  have hf1:=HFA1.out.line hm hl HG1.out
  clear HWX hl hm HFA1
 case' inr.inl =>
  subst hk1
  have hn:(tv1 != 1)=true:=by simpa using hv1
  go_wp2_with fail
  refine HFL.out.mono ?_
  rintro e u1 ⟨rfl,hl0,hm0⟩
  rw[show failS tp1 80 (.ok c)=numS ⟨2,tx1,tv1,tn1,tt1,tp1⟩ (.ok c) from (if_neg (fun q=>hv1 q.2)).symm] at hl0
  have HWX:=Lib.hid (HWT.out _ hl0)
  have HM0:=Lib.hid hm0
  clear hl0 hm0 HFL HWT
  go_wp2_with fail
  refine HWX.out.mono ?_
  rintro e w1 ⟨rfl,hl,hm⟩
  have hf1:=HFA1.out.line (HM0.out.trans hm) hl HG1.out
  clear HWX hl hm HFA1 HM0 hn hv1
 case' inr.inr =>
  have hn:(tk1 != 2)=true:=by simpa using hk1
  go_wp2_with fail
  refine HFL.out.mono ?_
  rintro e u1 ⟨rfl,hl0,hm0⟩
  rw[show failS tp1 80 (.ok c)=numS ⟨tk1,tx1,tv1,tn1,tt1,tp1⟩ (.ok c) from (if_neg (fun q=>hk1 q.1)).symm] at hl0
  have HWX:=Lib.hid (HWT.out _ hl0)
  have HM0:=Lib.hid hm0
  clear hl0 hm0 HFL HWT
  go_wp2_with fail
  refine HWX.out.mono ?_
  rintro e w1 ⟨rfl,hl,hm⟩
  have hf1:=HFA1.out.line (HM0.out.trans hm) hl HG1.out
  clear HWX hl hm HFA1 HM0 hn hk1
 all_goals
  have pl:=hf1.q.lt
  have k8:=hf1.q.cell 8
  have y8:=hf1.q.frozen 8
  simp only[List.getElem?_toArray,List.getElem?_cons_zero,List.getElem?_cons_succ] at k8
  have hs1:FI w (w1.setCell ⟨w.heap.size,8,none⟩ (.int .i64 T1.vn)) b vt S1 #[.int .i64 K,.string ⟨#[]⟩,.slice none 0 0,.string ⟨#[]⟩,.slice none 0 0,.slice none 0 0,.slice none 0 0,.string ⟨#[]⟩,.int .i64 T1.vn,.int .i64 0,.slice none 0 0]:=hf1.store (Nat.le_of_lt hbl) 8 (.int .i64 T1.vn)
  have HF1:=Lib.hid hs1
  clear hf1 hs1
  go_wp2_with fail
  rw[rounds_succ]
  have hx:=next_gen HF1.out.ln
  have HX:=Lib.hid hx
  clear hx
  go_wp2_with fail
  refine HX.out.mono ?_
  rintro e v2 ⟨⟨t2,rfl,ht2⟩,hb⟩
  have HE2:=Lib.hid ht2
  have bka:Below v2.heap.size v2 (v2.alloc (.cells #[.int .i64 t2.k,.string ⟨t2.x.toArray⟩,.int .i64 t2.vk,.int .i64 t2.vn,.string ⟨t2.vt.toArray⟩,.int .i64 t2.p] 105)):=balloc (Below.refl _ _) _
  have hfa:FI w (v2.alloc (.cells #[.int .i64 t2.k,.string ⟨t2.x.toArray⟩,.int .i64 t2.vk,.int .i64 t2.vn,.string ⟨t2.vt.toArray⟩,.int .i64 t2.p] 105)) b vt (S1) #[.int .i64 K,.string ⟨#[]⟩,.slice none 0 0,.string ⟨#[]⟩,.slice none 0 0,.slice none 0 0,.slice none 0 0,.string ⟨#[]⟩,.int .i64 T1.vn,.int .i64 0,.slice none 0 0]:=(HF1.out.keep hb).keep bka
  have hmv:MT b [101] (v2.alloc (.cells #[.int .i64 t2.k,.string ⟨t2.x.toArray⟩,.int .i64 t2.vk,.int .i64 t2.vn,.string ⟨t2.vt.toArray⟩,.int .i64 t2.p] 105)) (v2.alloc (.cells #[.int .i64 t2.k,.string ⟨t2.x.toArray⟩,.int .i64 t2.vk,.int .i64 t2.vn,.string ⟨t2.vt.toArray⟩,.int .i64 t2.p] 105)):=MT.refl _
  obtain⟨S2,hS2⟩:∃ S,(wantS 2 [] (numS t2 (S1))).2=S:=⟨_,rfl⟩
  obtain⟨T2,hT2⟩:∃ T,(wantS 2 [] (numS t2 (S1))).1=T:=⟨_,rfl⟩
  have hgn:=numS_nb (t:=t2) hfa.g
  have hgd:=want_good (x:=[]) (k:=2) (by decide) hgn
  have hwt:=fun W (hW:Ln W b (numS t2 (S1)) vt)=>want_ln hW hgn 2 []
  rw[hS2] at hgd
  simp only[hS2,hT2] at hwt
  unfold Tok.v at hwt
  have hfl:=fail_ln hfa.ln (fun a e q=>by have hq:=hfa.g;rw[q] at hq;exact hq) t2.p 80
  have HFA2:=Lib.hid hfa
  have HWT:=Lib.hid hwt
  have HFL:=Lib.hid hfl
  have HG2:=Lib.hid hgd
  have HT2:=Lib.hid hT2
  have HS2:=Lib.hid hS2
  clear bka hfa hmv hgn hgd hwt hfl hT2 hS2 ht2 hb HX HF1 pl k8 y8
  unfold Tok.v
  obtain⟨tk2,tx2,tv2,tn2,tt2,tp2⟩:=t2
  simp only at *
  have h3w:(tk2=2/\tv2=1)∨(tk2=2/\¬ tv2=1)∨¬ tk2=2:=by omega
  rcases h3w with ⟨hk2,hv2⟩ | ⟨hk2,hv2⟩ | hk2
  case' inl =>
   subst hk2 hv2
   have hl0:=HFA2.out.ln
   rw[show S1=numS ⟨2,tx2,1,tn2,tt2,tp2⟩ (S1) from (if_pos ⟨rfl,rfl⟩).symm] at hl0
   have HWX:=Lib.hid (HWT.out _ hl0)
   clear hl0 HFL HWT
   go_wp2_with fail
   refine HWX.out.mono ?_
   rintro e w2 ⟨rfl,hl,hm⟩
   have hf2:=HFA2.out.line hm hl HG2.out
   clear HWX hl hm HFA2
  case' inr.inl =>
   subst hk2
   have hn:(tv2 != 1)=true:=by simpa using hv2
   go_wp2_with fail
   refine HFL.out.mono ?_
   rintro e u2 ⟨rfl,hl0,hm0⟩
   rw[show failS tp2 80 (S1)=numS ⟨2,tx2,tv2,tn2,tt2,tp2⟩ (S1) from (if_neg (fun q=>hv2 q.2)).symm] at hl0
   have HWX:=Lib.hid (HWT.out _ hl0)
   have HM0:=Lib.hid hm0
   clear hl0 hm0 HFL HWT
   go_wp2_with fail
   refine HWX.out.mono ?_
   rintro e w2 ⟨rfl,hl,hm⟩
   have hf2:=HFA2.out.line (HM0.out.trans hm) hl HG2.out
   clear HWX hl hm HFA2 HM0 hn hv2
  case' inr.inr =>
   have hn:(tk2 != 2)=true:=by simpa using hk2
   go_wp2_with fail
   refine HFL.out.mono ?_
   rintro e u2 ⟨rfl,hl0,hm0⟩
   rw[show failS tp2 80 (S1)=numS ⟨tk2,tx2,tv2,tn2,tt2,tp2⟩ (S1) from (if_neg (fun q=>hk2 q.1)).symm] at hl0
   have HWX:=Lib.hid (HWT.out _ hl0)
   have HM0:=Lib.hid hm0
   clear hl0 hm0 HFL HWT
   go_wp2_with fail
   refine HWX.out.mono ?_
   rintro e w2 ⟨rfl,hl,hm⟩
   have hf2:=HFA2.out.line (HM0.out.trans hm) hl HG2.out
   clear HWX hl hm HFA2 HM0 hn hk2
  all_goals
   have pl:=hf2.q.lt
   have k9:=hf2.q.cell 9
   have y9:=hf2.q.frozen 9
   simp only[List.getElem?_toArray,List.getElem?_cons_zero,List.getElem?_cons_succ] at k9
   have hs2:FI w (w2.setCell ⟨w.heap.size,9,none⟩ (.int .i64 T2.vn)) b vt S2 #[.int .i64 K,.string ⟨#[]⟩,.slice none 0 0,.string ⟨#[]⟩,.slice none 0 0,.slice none 0 0,.slice none 0 0,.string ⟨#[]⟩,.int .i64 T1.vn,.int .i64 T2.vn,.slice none 0 0]:=hf2.store (Nat.le_of_lt hbl) 9 (.int .i64 T2.vn)
   have HF2:=Lib.hid hs2
   clear hf2 hs2
   go_wp2_with fail
   rw[rounds_succ]
   clear pl k9 y9
   have pl:=HF2.out.q.lt
   have k0:=HF2.out.q.cell 0
   have y0:=HF2.out.q.frozen 0
   have k1:=HF2.out.q.cell 1
   have y1:=HF2.out.q.frozen 1
   have k2:=HF2.out.q.cell 2
   have y2:=HF2.out.q.frozen 2
   have k3:=HF2.out.q.cell 3
   have y3:=HF2.out.q.frozen 3
   have k4:=HF2.out.q.cell 4
   have y4:=HF2.out.q.frozen 4
   have k5:=HF2.out.q.cell 5
   have y5:=HF2.out.q.frozen 5
   have k6:=HF2.out.q.cell 6
   have y6:=HF2.out.q.frozen 6
   have k7:=HF2.out.q.cell 7
   have y7:=HF2.out.q.frozen 7
   have k8:=HF2.out.q.cell 8
   have y8:=HF2.out.q.frozen 8
   have k9:=HF2.out.q.cell 9
   have y9:=HF2.out.q.frozen 9
   have k10:=HF2.out.q.cell 10
   have y10:=HF2.out.q.frozen 10
   simp only[List.getElem?_toArray,List.getElem?_cons_zero,List.getElem?_cons_succ] at k0 k1 k2 k3 k4 k5 k6 k7 k8 k9 k10
   have hz:=HF2.out.z
   have lz:=hz.lt
   have HZ:=Lib.hid hz
   have hcm:∀ w4,Blk w4 (w.heap.size+1) 39 #[.int .i64 K,.string ⟨#[]⟩,.slice none 0 0,.string ⟨#[]⟩,.slice none 0 0,.slice none 0 0,.slice none 0 0,.string ⟨#[]⟩,.int .i64 T1.vn,.int .i64 T2.vn,.slice none 0 0]->Mod (fun k=>k=w.heap.size+1) (w2.setCell ⟨w.heap.size,9,none⟩ (.int .i64 T2.vn)) w4->FPost w b vt P (.returned (.agg #[.int .i64 K,.string ⟨#[]⟩,.slice none 0 0,.string ⟨#[]⟩,.slice none 0 0,.slice none 0 0,.slice none 0 0,.string ⟨#[]⟩,.int .i64 T1.vn,.int .i64 T2.vn,.slice none 0 0])) w4:=by
    intro w4 hb4 hm4
    have m4:MT 0 [39] (w2.setCell ⟨w.heap.size,9,none⟩ (.int .i64 T2.vn)) w4:=MT.ofMod hm4 HZ.out (by simp) (Nat.zero_le _)
    exact⟨_,{ cmd0 with kind:=K,id:=T1.vn,n:=T2.vn },S2,rfl,⟨_,_,_,_,_,rfl,World.ownsRow_nil _ _ _ _,World.ownsRow_nil _ _ _ _,⟨[],World.ownsRow_nil _ _ _ _,trivial⟩,⟨[],World.ownsRow_nil _ _ _ _,trivial⟩,World.ownsRow_nil _ _ _ _⟩,HF2.out.ln.mt m4 (by decide) (by decide),HF2.out.g,HF2.out.mt.own hm4 (by omega),law_ik HPOST.out hg HE1.out HT1.out HS1.out HE2.out HT2.out HS2.out⟩
   have HCM:=Lib.hid hcm
   clear hcm hz
   go_wp2_with (refine wpList_store_blk rfl 39 _ _ rfl (w.heap.size+1) 39 _ _ rfl rfl HZ.out (by kernel_rfl) rfl (by simp [Value.oneCell']) ?_)
   intro w4 hb4 hm4 hz4
   clear pl k0 y0 k1 y1 k2 y2 k3 y3 k4 y4 k5 y5 k6 y6 k7 y7 k8 y8 k9 y9 k10 y10
   have r0:=hb4.cell 0
   have r1:=hb4.cell 1
   have r2:=hb4.cell 2
   have r3:=hb4.cell 3
   have r4:=hb4.cell 4
   have r5:=hb4.cell 5
   have r6:=hb4.cell 6
   have r7:=hb4.cell 7
   have r8:=hb4.cell 8
   have r9:=hb4.cell 9
   have r10:=hb4.cell 10
   simp only[List.getElem?_toArray,List.getElem?_cons_zero,List.getElem?_cons_succ] at r0 r1 r2 r3 r4 r5 r6 r7 r8 r9 r10
   have HP4:=Lib.hid (HCM.out w4 hb4 hm4)
   clear hb4 hm4 hz4
   go_wp2_with fail
   exact bodyPost_ret (v:=.agg #[.int .i64 K,.string ⟨#[]⟩,.slice none 0 0,.string ⟨#[]⟩,.slice none 0 0,.slice none 0 0,.slice none 0 0,.string ⟨#[]⟩,.int .i64 T1.vn,.int .i64 T2.vn,.slice none 0 0]) (by simp [results,Tryz.results59,go_sem, *]) rfl HP4.out
set_option maxHeartbeats 8000000 in
set_option maxRecDepth 100000 in
theorem fld_nk (w:World) (b:Nat) (vt:Value) (c:List Tok) (K:Int) (h:Ln w b (.ok c) vt) (hg:Good (.ok c)) (P:PR Cmd) (hP:P=bindP (nmP1 c) fun x c1=>bindP (numP c1) fun j c2=>.ok { cmd0 with kind:=K,nm:=x,n:=j } c2)
 :
  Calls Tryz.prog 59 #[.pointer (some ⟨b,0,none⟩),.agg #[.int .i64 K,.string ⟨#[]⟩,.slice none 0 0,.string ⟨#[]⟩,.slice none 0 0,.slice none 0 0,.slice none 0 0,.string ⟨#[]⟩,.int .i64 0,.int .i64 0,.slice none 0 0],.string ⟨#[110,107]⟩] w (FPost w b vt P):=by
 have hbl:=h.lt
 have bk:Below w.heap.size w ((w.alloc (.cells #[.int .i64 K,.string ⟨#[]⟩,.slice none 0 0,.string ⟨#[]⟩,.slice none 0 0,.slice none 0 0,.slice none 0 0,.string ⟨#[]⟩,.int .i64 0,.int .i64 0,.slice none 0 0] 39)).alloc (.cells #[.int .i64 0,.string ⟨#[]⟩,.slice none 0 0,.string ⟨#[]⟩,.slice none 0 0,.slice none 0 0,.slice none 0 0,.string ⟨#[]⟩,.int .i64 0,.int .i64 0,.slice none 0 0] 39)):=balloc (balloc (Below.refl _ _) _) _
 have hf:FI w ((w.alloc (.cells #[.int .i64 K,.string ⟨#[]⟩,.slice none 0 0,.string ⟨#[]⟩,.slice none 0 0,.slice none 0 0,.slice none 0 0,.string ⟨#[]⟩,.int .i64 0,.int .i64 0,.slice none 0 0] 39)).alloc (.cells #[.int .i64 0,.string ⟨#[]⟩,.slice none 0 0,.string ⟨#[]⟩,.slice none 0 0,.slice none 0 0,.slice none 0 0,.string ⟨#[]⟩,.int .i64 0,.int .i64 0,.slice none 0 0] 39)) b vt (.ok c) #[.int .i64 K,.string ⟨#[]⟩,.slice none 0 0,.string ⟨#[]⟩,.slice none 0 0,.slice none 0 0,.slice none 0 0,.string ⟨#[]⟩,.int .i64 0,.int .i64 0,.slice none 0 0]:=⟨h.keep bk,MT.ofBelow bk,(Blk.new _ _ _).alloc _,blkNew1 _ _ _ _,hg⟩
 obtain⟨W0,hW0⟩:∃ W0,(w.alloc (.cells #[.int .i64 K,.string ⟨#[]⟩,.slice none 0 0,.string ⟨#[]⟩,.slice none 0 0,.slice none 0 0,.slice none 0 0,.string ⟨#[]⟩,.int .i64 0,.int .i64 0,.slice none 0 0] 39)).alloc (.cells #[.int .i64 0,.string ⟨#[]⟩,.slice none 0 0,.string ⟨#[]⟩,.slice none 0 0,.slice none 0 0,.slice none 0 0,.string ⟨#[]⟩,.int .i64 0,.int .i64 0,.slice none 0 0] 39)=W0:=⟨_,rfl⟩
 rw[hW0] at hf
 have HW0:=Lib.hid hW0
 have HF0:=Lib.hid hf
 have HPOST:=Lib.hid hP
 have hf2:∀ (a b c d e f:Value) (w:World),(Instr.field 105 (.agg #[a,b,c,d,e,f]) 2).run Tryz.prog w=.ok (.agg #[c,d,e]) w:=fun _ _ _ _ _ _ _=>by kernel_rfl
 have hf1:∀ (a b c d e f:Value) (w:World),(Instr.field 105 (.agg #[a,b,c,d,e,f]) 1).run Tryz.prog w=.ok b w:=fun _ _ _ _ _ _ _=>by kernel_rfl
 have hf3:∀ (a b c:Value) (w:World),(Instr.field 69 (.agg #[a,b,c]) 1).run Tryz.prog w=.ok b w:=fun _ _ _ _=>by kernel_rfl
 clear h bk hf hW0 hP
 go_enter Tryz.func59,Tryz.ntmps59
 go_upto_region 1 with fail
 rw[HW0.out]
 go_wp2_with fail
 refine wp_loop_rounds 3 ?_
 rw[rounds_succ]
 have hc:=want_ln HF0.out.ln HF0.out.g 1 []
 have hgd:=want_good (x:=[]) (k:=1) (by decide) HF0.out.g
 obtain⟨T1,hT1⟩:∃ T,(wantS 1 [] (.ok c)).1=T:=⟨_,rfl⟩
 obtain⟨S1,hS1⟩:∃ S,(wantS 1 [] (.ok c)).2=S:=⟨_,rfl⟩
 rw[hS1] at hc hgd
 rw[hT1] at hc
 unfold Tok.v at hc
 have HC:=Lib.hid hc
 have HG1:=Lib.hid hgd
 have HT1:=Lib.hid hT1
 have HS1:=Lib.hid hS1
 clear hc hgd hT1 hS1
 go_wp2_with fail
 refine HC.out.mono ?_
 rintro e w1 ⟨rfl,hl,hm⟩
 have hf1:=HF0.out.line hm hl HG1.out
 clear HC hl hm HF0
 have pl:=hf1.q.lt
 have k7:=hf1.q.cell 7
 have y7:=hf1.q.frozen 7
 simp only[List.getElem?_toArray,List.getElem?_cons_zero,List.getElem?_cons_succ] at k7
 have hs1:FI w (w1.setCell ⟨w.heap.size,7,none⟩ (.string ⟨T1.x.toArray⟩)) b vt S1 #[.int .i64 K,.string ⟨#[]⟩,.slice none 0 0,.string ⟨#[]⟩,.slice none 0 0,.slice none 0 0,.slice none 0 0,.string ⟨T1.x.toArray⟩,.int .i64 0,.int .i64 0,.slice none 0 0]:=hf1.store (Nat.le_of_lt hbl) 7 (.string ⟨T1.x.toArray⟩)
 have HF1:=Lib.hid hs1
 clear hf1 hs1
 go_wp2_with fail
 rw[rounds_succ]
 have hx:=next_gen HF1.out.ln
 have HX:=Lib.hid hx
 clear hx
 go_wp2_with fail
 refine HX.out.mono ?_
 rintro e v2 ⟨⟨t2,rfl,ht2⟩,hb⟩
 have HE2:=Lib.hid ht2
 have bka:Below v2.heap.size v2 (v2.alloc (.cells #[.int .i64 t2.k,.string ⟨t2.x.toArray⟩,.int .i64 t2.vk,.int .i64 t2.vn,.string ⟨t2.vt.toArray⟩,.int .i64 t2.p] 105)):=balloc (Below.refl _ _) _
 have hfa:FI w (v2.alloc (.cells #[.int .i64 t2.k,.string ⟨t2.x.toArray⟩,.int .i64 t2.vk,.int .i64 t2.vn,.string ⟨t2.vt.toArray⟩,.int .i64 t2.p] 105)) b vt (S1) #[.int .i64 K,.string ⟨#[]⟩,.slice none 0 0,.string ⟨#[]⟩,.slice none 0 0,.slice none 0 0,.slice none 0 0,.string ⟨T1.x.toArray⟩,.int .i64 0,.int .i64 0,.slice none 0 0]:=(HF1.out.keep hb).keep bka
 have hmv:MT b [101] (v2.alloc (.cells #[.int .i64 t2.k,.string ⟨t2.x.toArray⟩,.int .i64 t2.vk,.int .i64 t2.vn,.string ⟨t2.vt.toArray⟩,.int .i64 t2.p] 105)) (v2.alloc (.cells #[.int .i64 t2.k,.string ⟨t2.x.toArray⟩,.int .i64 t2.vk,.int .i64 t2.vn,.string ⟨t2.vt.toArray⟩,.int .i64 t2.p] 105)):=MT.refl _
 obtain⟨S2,hS2⟩:∃ S,(wantS 2 [] (numS t2 (S1))).2=S:=⟨_,rfl⟩
 obtain⟨T2,hT2⟩:∃ T,(wantS 2 [] (numS t2 (S1))).1=T:=⟨_,rfl⟩
 have hgn:=numS_nb (t:=t2) hfa.g
 have hgd:=want_good (x:=[]) (k:=2) (by decide) hgn
 have hwt:=fun W (hW:Ln W b (numS t2 (S1)) vt)=>want_ln hW hgn 2 []
 rw[hS2] at hgd
 simp only[hS2,hT2] at hwt
 unfold Tok.v at hwt
 have hfl:=fail_ln hfa.ln (fun a e q=>by have hq:=hfa.g;rw[q] at hq;exact hq) t2.p 80
 have HFA2:=Lib.hid hfa
 have HWT:=Lib.hid hwt
 have HFL:=Lib.hid hfl
 have HG2:=Lib.hid hgd
 have HT2:=Lib.hid hT2
 have HS2:=Lib.hid hS2
 clear bka hfa hmv hgn hgd hwt hfl hT2 hS2 ht2 hb HX HF1 pl k7 y7
 unfold Tok.v
 obtain⟨tk2,tx2,tv2,tn2,tt2,tp2⟩:=t2
 simp only at *
 have h3w:(tk2=2/\tv2=1)∨(tk2=2/\¬ tv2=1)∨¬ tk2=2:=by omega
 rcases h3w with ⟨hk2,hv2⟩ | ⟨hk2,hv2⟩ | hk2
 case' inl =>
  subst hk2 hv2
  have hl0:=HFA2.out.ln
  rw[show S1=numS ⟨2,tx2,1,tn2,tt2,tp2⟩ (S1) from (if_pos ⟨rfl,rfl⟩).symm] at hl0
  have HWX:=Lib.hid (HWT.out _ hl0)
  clear hl0 HFL HWT
  go_wp2_with fail
  refine HWX.out.mono ?_
  rintro e w2 ⟨rfl,hl,hm⟩
  have hf2:=HFA2.out.line hm hl HG2.out
  clear HWX hl hm HFA2
 case' inr.inl =>
  subst hk2
  have hn:(tv2 != 1)=true:=by simpa using hv2
  go_wp2_with fail
  refine HFL.out.mono ?_
  rintro e u2 ⟨rfl,hl0,hm0⟩
  rw[show failS tp2 80 (S1)=numS ⟨2,tx2,tv2,tn2,tt2,tp2⟩ (S1) from (if_neg (fun q=>hv2 q.2)).symm] at hl0
  have HWX:=Lib.hid (HWT.out _ hl0)
  have HM0:=Lib.hid hm0
  clear hl0 hm0 HFL HWT
  go_wp2_with fail
  refine HWX.out.mono ?_
  rintro e w2 ⟨rfl,hl,hm⟩
  have hf2:=HFA2.out.line (HM0.out.trans hm) hl HG2.out
  clear HWX hl hm HFA2 HM0 hn hv2
 case' inr.inr =>
  have hn:(tk2 != 2)=true:=by simpa using hk2
  go_wp2_with fail
  refine HFL.out.mono ?_
  rintro e u2 ⟨rfl,hl0,hm0⟩
  rw[show failS tp2 80 (S1)=numS ⟨tk2,tx2,tv2,tn2,tt2,tp2⟩ (S1) from (if_neg (fun q=>hk2 q.1)).symm] at hl0
  have HWX:=Lib.hid (HWT.out _ hl0)
  have HM0:=Lib.hid hm0
  clear hl0 hm0 HFL HWT
  go_wp2_with fail
  refine HWX.out.mono ?_
  rintro e w2 ⟨rfl,hl,hm⟩
  have hf2:=HFA2.out.line (HM0.out.trans hm) hl HG2.out
  clear HWX hl hm HFA2 HM0 hn hk2
 all_goals
  have pl:=hf2.q.lt
  have k9:=hf2.q.cell 9
  have y9:=hf2.q.frozen 9
  simp only[List.getElem?_toArray,List.getElem?_cons_zero,List.getElem?_cons_succ] at k9
  have hs2:FI w (w2.setCell ⟨w.heap.size,9,none⟩ (.int .i64 T2.vn)) b vt S2 #[.int .i64 K,.string ⟨#[]⟩,.slice none 0 0,.string ⟨#[]⟩,.slice none 0 0,.slice none 0 0,.slice none 0 0,.string ⟨T1.x.toArray⟩,.int .i64 0,.int .i64 T2.vn,.slice none 0 0]:=hf2.store (Nat.le_of_lt hbl) 9 (.int .i64 T2.vn)
  have HF2:=Lib.hid hs2
  clear hf2 hs2
  go_wp2_with fail
  rw[rounds_succ]
  clear pl k9 y9
  have pl:=HF2.out.q.lt
  have k0:=HF2.out.q.cell 0
  have y0:=HF2.out.q.frozen 0
  have k1:=HF2.out.q.cell 1
  have y1:=HF2.out.q.frozen 1
  have k2:=HF2.out.q.cell 2
  have y2:=HF2.out.q.frozen 2
  have k3:=HF2.out.q.cell 3
  have y3:=HF2.out.q.frozen 3
  have k4:=HF2.out.q.cell 4
  have y4:=HF2.out.q.frozen 4
  have k5:=HF2.out.q.cell 5
  have y5:=HF2.out.q.frozen 5
  have k6:=HF2.out.q.cell 6
  have y6:=HF2.out.q.frozen 6
  have k7:=HF2.out.q.cell 7
  have y7:=HF2.out.q.frozen 7
  have k8:=HF2.out.q.cell 8
  have y8:=HF2.out.q.frozen 8
  have k9:=HF2.out.q.cell 9
  have y9:=HF2.out.q.frozen 9
  have k10:=HF2.out.q.cell 10
  have y10:=HF2.out.q.frozen 10
  simp only[List.getElem?_toArray,List.getElem?_cons_zero,List.getElem?_cons_succ] at k0 k1 k2 k3 k4 k5 k6 k7 k8 k9 k10
  have hz:=HF2.out.z
  have lz:=hz.lt
  have HZ:=Lib.hid hz
  have hcm:∀ w4,Blk w4 (w.heap.size+1) 39 #[.int .i64 K,.string ⟨#[]⟩,.slice none 0 0,.string ⟨#[]⟩,.slice none 0 0,.slice none 0 0,.slice none 0 0,.string ⟨T1.x.toArray⟩,.int .i64 0,.int .i64 T2.vn,.slice none 0 0]->Mod (fun k=>k=w.heap.size+1) (w2.setCell ⟨w.heap.size,9,none⟩ (.int .i64 T2.vn)) w4->FPost w b vt P (.returned (.agg #[.int .i64 K,.string ⟨#[]⟩,.slice none 0 0,.string ⟨#[]⟩,.slice none 0 0,.slice none 0 0,.slice none 0 0,.string ⟨T1.x.toArray⟩,.int .i64 0,.int .i64 T2.vn,.slice none 0 0])) w4:=by
   intro w4 hb4 hm4
   have m4:MT 0 [39] (w2.setCell ⟨w.heap.size,9,none⟩ (.int .i64 T2.vn)) w4:=MT.ofMod hm4 HZ.out (by simp) (Nat.zero_le _)
   exact⟨_,{ cmd0 with kind:=K,nm:=T1.x,n:=T2.vn },S2,rfl,⟨_,_,_,_,_,rfl,World.ownsRow_nil _ _ _ _,World.ownsRow_nil _ _ _ _,⟨[],World.ownsRow_nil _ _ _ _,trivial⟩,⟨[],World.ownsRow_nil _ _ _ _,trivial⟩,World.ownsRow_nil _ _ _ _⟩,HF2.out.ln.mt m4 (by decide) (by decide),HF2.out.g,HF2.out.mt.own hm4 (by omega),law_nk HPOST.out hg HT1.out HS1.out HE2.out HT2.out HS2.out⟩
  have HCM:=Lib.hid hcm
  clear hcm hz
  go_wp2_with (refine wpList_store_blk rfl 39 _ _ rfl (w.heap.size+1) 39 _ _ rfl rfl HZ.out (by kernel_rfl) rfl (by simp [Value.oneCell']) ?_)
  intro w4 hb4 hm4 hz4
  clear pl k0 y0 k1 y1 k2 y2 k3 y3 k4 y4 k5 y5 k6 y6 k7 y7 k8 y8 k9 y9 k10 y10
  have r0:=hb4.cell 0
  have r1:=hb4.cell 1
  have r2:=hb4.cell 2
  have r3:=hb4.cell 3
  have r4:=hb4.cell 4
  have r5:=hb4.cell 5
  have r6:=hb4.cell 6
  have r7:=hb4.cell 7
  have r8:=hb4.cell 8
  have r9:=hb4.cell 9
  have r10:=hb4.cell 10
  simp only[List.getElem?_toArray,List.getElem?_cons_zero,List.getElem?_cons_succ] at r0 r1 r2 r3 r4 r5 r6 r7 r8 r9 r10
  have HP4:=Lib.hid (HCM.out w4 hb4 hm4)
  clear hb4 hm4 hz4
  go_wp2_with fail
  exact bodyPost_ret (v:=.agg #[.int .i64 K,.string ⟨#[]⟩,.slice none 0 0,.string ⟨#[]⟩,.slice none 0 0,.slice none 0 0,.slice none 0 0,.string ⟨T1.x.toArray⟩,.int .i64 0,.int .i64 T2.vn,.slice none 0 0]) (by simp [results,Tryz.results59,go_sem, *]) rfl HP4.out
end Go.Proofs.YtamjadghncnbcaaGreatDoor
