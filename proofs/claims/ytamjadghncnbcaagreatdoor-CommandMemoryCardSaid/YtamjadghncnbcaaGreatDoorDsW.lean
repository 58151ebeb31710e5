/- The document's reading of a batch, plainly; it tells what the program's reading tells. osierref25.fields, walked (printed by mkcr.py): two numbers, a name and a number. -/
import Derived.Test.YtamjadghncnbcaaGreatDoorGfW
import Derived.Test.YtamjadghncnbcaaGreatDoorBcW
import Derived.Test.YtamjadghncnbcaaGreatDoorDrW
import Derived.Test.YtamjadghncnbcaaGreatDoorGcW
import Derived.Test.YtamjadghncnbcaaGreatDoorGgW
import Derived.Deep.RegionLawGrows
import Derived.Deep.CutRange
import Derived.Deep.MidRow
import Derived.OwnWalk
namespace Go.Proofs.YtamjadghncnbcaaGreatDoor
open Go.RowKit
set_option linter.unusedVariables false
def ltS (s:LS):Vl × LS:=(⟨(wantS 2 [] s).1.vk,(wantS 2 [] s).1.vn,(wantS 2 [] s).1.vt⟩,(wantS 2 [] s).2)
theorem ltS_ok:StepOk litP ltS:=by
 intro c he
 have h1:=want_tk0 (k:=2) he (by decide)
 unfold ltS
 cases ho:tk 2 [] c with
 | bad a e =>
   rw[ho] at h1
   simp only at h1
   rw[lit_bad ho,h1]
 | ok t c1 =>
   rw[ho] at h1
   obtain⟨h1,he1⟩:=h1
   rw[lit_ok ho,h1]
   exact⟨rfl,he1⟩
def sgS (s:LS):LS:=(wantS 3 (if isS 3 [43] s=true then [43] else [45]) s).2
def cg3 (b:Bool) (p:Int) (x:List UInt8) (G:LS × List Vl):ChP × LS:=((⟨b,x,G.2⟩,p),(wantS 3 [41] G.1).2)
def cg2 (b:Bool) (p:Int) (x:List UInt8) (X:Tok × LS):ChP × LS:=cg3 b p x (gloop ltS (meas X.2+1) X.2 [])
def cg1 (b:Bool) (p:Int) (X:Tok × LS):ChP × LS:=cg2 b p X.1.x (wantS 3 [40] X.2)
def plS:LS->Int
 | .bad _ _=>0
 | .ok c=>(headT c).p
def cgS (s:LS):ChP × LS:=cg1 (isS 3 [43] s) (plS s) (wantS 1 [] (sgS s))
theorem cg1_list (b:Bool) (p:Int) (X:Tok × LS):cg1 b p X=((⟨b,X.1.x,(listS ltS X.2).1⟩,p),(listS ltS X.2).2):=rfl
theorem sgS_ok {c:List Tok} (he:Ended c):match tk 3 sgnX c with
 | .bad a e=>sgS (.ok c)=.bad a e
 | .ok t r=>sgS (.ok c)=.ok r/\isS 3 [43] (.ok c)=decide (t.x=[43])/\plS (.ok c)=t.p/\Ended r:=by
 obtain⟨t,r,rfl⟩:=he.some
 by_cases hk:t.k=3
 ·by_cases h1:t.x=[43]
  ·have hi:isS 3 [43] (.ok (t::r))=true:=by simp [isS,isT,headT,hk,h1]
   have hu:tk 3 sgnX (t::r)=.ok t r:=by simp [tk,hk,h1]
   rw[hu]
   unfold sgS
   rw[if_pos hi]
   refine⟨by simp [wantS,wantT,headT,hk,h1],by rw[hi,h1];rfl,rfl,he.cons (by omega)⟩
  ·have hi:isS 3 [43] (.ok (t::r))=false:=by simp [isS,isT,headT,hk,h1]
   unfold sgS
   rw[if_neg (by rw[hi];decide),hi]
   by_cases h2:t.x=[45]
   ·have hu:tk 3 sgnX (t::r)=.ok t r:=by simp [tk,hk,h2]
    rw[hu]
    refine⟨by simp [wantS,wantT,headT,hk,h2],by rw[h2];rfl,rfl,he.cons (by omega)⟩
   ·have hu:tk 3 sgnX (t::r)=.bad t.p 80:=by simp [tk,hk,h1,h2]
    rw[hu]
    simp [wantS,wantT,headT,hk,h2]
 ·have hi:isS 3 [43] (.ok (t::r))=false:=by simp [isS,isT,headT,hk]
  have hu:tk 3 sgnX (t::r)=.bad t.p 80:=by simp [tk,hk]
  unfold sgS
  rw[if_neg (by rw[hi];decide),hu]
  simp [wantS,wantT,headT,hk]
theorem cgS_ok:StepOk chgP cgS:=by
 intro c he
 have h1:=sgS_ok he
 unfold cgS
 cases ho:tk 3 sgnX c with
 | bad a e =>
   rw[ho] at h1
   simp only at h1
   rw[chg_bad1 ho,h1]
   show (cg1 _ _ (tok0,.bad a e)).2=_
   unfold cg1 cg2 cg3
   simp only[wantS,gloop_bad]
 | ok s c1 =>
   rw[ho] at h1
   obtain⟨h1,h2,h3,he1⟩:=h1
   rw[h1,h2,h3]
   have h4:=want_tk0 (k:=1) he1 (by decide)
   cases hn:tk 1 [] c1 with
   | bad a e =>
     rw[hn] at h4
     simp only at h4
     rw[chg_bad2 ho hn,h4]
     unfold cg1 cg2 cg3
     simp only[wantS,gloop_bad]
   | ok t c2 =>
     rw[hn] at h4
     obtain⟨h4,he2⟩:=h4
     rw[h4,cg1_list]
     have h5:=listS_ok ltS_ok lit_less c2 he2
     cases hl:listP litP c2 with
     | bad a e =>
       rw[hl] at h5
       rw[chg_bad3 ho hn hl]
       exact h5
     | ok l c3 =>
       rw[hl] at h5
       obtain⟨h5,he3⟩:=h5
       rw[chg_ok ho hn hl]
       simp only[h5]
       exact⟨rfl,he3⟩
def moreB (n:Nat):LS->Bool × LS
 | .bad a e=>(false,.bad a e)
 | .ok c=>if n=0 then (!endT c,.ok c) else moreS n (.ok c)
def hloop:Nat->LS->List ChP->LS × List ChP
 | 0,s,ys=>(s,ys)
 | f+1,s,ys=>if (moreB ys.length s).1=true then hloop f (cgS (moreB ys.length s).2).2 (ys++[(cgS (moreB ys.length s).2).1]) else (s,ys)
theorem hloop_end (f:Nat) {s:LS} {ys:List ChP} (h:(moreB ys.length s).1=false):hloop f s ys=(s,ys):=by
 cases f with
 | zero=>rfl
 | succ f=>unfold hloop;rw[if_neg (by rw[h];decide)]
theorem hloop_go (f:Nat) {s:LS} {ys:List ChP} (h:(moreB ys.length s).1=true):hloop (f+1) s ys=hloop f (cgS (moreB ys.length s).2).2 (ys++[(cgS (moreB ys.length s).2).1]):=by
 rw[hloop,if_pos h]
theorem moreB_pos {n:Nat} (h:n≠0) (s:LS):moreB n s=moreS n s:=by
 cases s with
 | bad a e=>rfl
 | ok c=>show (if n=0 then _ else _)=_;rw[if_neg h]
theorem hloop_gloop:∀ (f:Nat) (s:LS) (ys:List ChP),ys≠[]->hloop f s ys=gloop cgS f s ys
 | 0,_,_,_=>rfl
 | f+1,s,ys,h=>by
   have hn:ys.length≠0:=fun e=>h (List.eq_nil_of_length_eq_zero e)
   unfold hloop gloop
   rw[moreB_pos hn]
   split
   ·exact hloop_gloop f _ _ (by simp)
   ·rfl
theorem hloop_bad (f:Nat) (a e:Int) (ys:List ChP):hloop f (.bad a e) ys=(.bad a e,ys):=hloop_end f rfl
theorem hloop_ok (f:Nat) (c:List Tok) (he:Ended c) (hf:c.length+2<=f):match chgsP c with
 | .bad a e=>(hloop f (.ok c) []).1=.bad a e
 | .ok xs c'=>hloop f (.ok c) []=(.ok c',xs)/\Ended c':=by
 unfold chgsP
 by_cases h0:endT c=true
 ·rw[if_pos h0]
  refine⟨hloop_end f ?_,he⟩
  show (!endT c)=false
  rw[h0]
  rfl
 ·rw[if_neg h0]
  have h0':endT c=false:=by simpa using h0
  obtain⟨f,rfl⟩:∃ g,f=g+1:=⟨f - 1,by omega⟩
  have hm:moreB ([]:List ChP).length (.ok c)=(true,.ok c):=by
   show (!endT c,LS.ok c)=_
   rw[h0']
   rfl
  have hg:=hloop_go f (s:=.ok c) (ys:=[]) (by rw[hm])
  rw[hm] at hg
  simp only[List.nil_append] at hg
  rw[hg]
  have hst:=cgS_ok c he
  cases hp:chgP c with
  | bad a e =>
    rw[hp] at hst
    simp only at hst
    rw[some_bad hp,hst,hloop_bad]
  | ok x c1 =>
    rw[hp] at hst
    obtain⟨h1,h2⟩:=hst
    have h3:=chg_less _ _ _ hp
    have h4:=gloop_rest cgS_ok chg_less f c1 [x] (by simp) h2 (by omega)
    have h5:=hloop_gloop f (.ok c1) [x] (by simp)
    rw[<-h5] at h4
    rw[some_ok hp,h1]
    cases hr:restP chgP [x] c1 with
    | bad a e =>
      rw[hr] at h4
      exact h4
    | ok xs c' =>
      rw[hr] at h4
      exact h4
def outB (s:LS) (l:List ChP):PR (List Chg):=match s with
 | .bad a e=>.bad a e
 | .ok _=>.ok (l.map (·.1)) []
def ovS (l:List ChP) (s:LS):LS:=if 0<=overP l then failS (overP l) 100 s else s
def b1 (l:List ChP) (X:Tok × LS):PR (List Chg):=outB (ovS l X.2) l
def b0 (G:LS × List ChP):PR (List Chg):=b1 G.2 (wantS 0 [] G.1)
def refB (s:LS):PR (List Chg):=b0 (hloop (meas s+1) s [])
theorem ovS_bad (l:List ChP) (a e:Int):ovS l (.bad a e)=.bad a e:=by
 unfold ovS
 split<;>rfl
theorem b0_bad (a e:Int) (l:List ChP):b0 (.bad a e,l)=.bad a e:=by
 show outB (ovS l (.bad a e)) l=_
 rw[ovS_bad]
 rfl
theorem refB_bad (a e:Int):refB (.bad a e)=.bad a e:=by
 unfold refB
 rw[hloop_bad]
 exact b0_bad a e []
theorem refB_ok {ts:List Tok} (h:Ended ts):refB (.ok ts)=batchT ts:=by
 have h1:=hloop_ok (meas (.ok ts)+1) ts h (by simp [meas])
 unfold refB
 cases hc:chgsP ts with
 | bad a e =>
   rw[hc] at h1
   simp only at h1
   rw[batchT_bad1 hc]
   obtain⟨l,hl⟩:∃ l,hloop (meas (.ok ts)+1) (.ok ts) []=(.bad a e,l):=⟨_,Prod.ext h1 rfl⟩
   rw[hl]
   exact b0_bad a e l
 | ok l c2 =>
   rw[hc] at h1
   obtain⟨h1,he2⟩:=h1
   rw[h1]
   show outB (ovS l (wantS 0 [] (.ok c2)).2) l=_
   obtain⟨u,r,rfl⟩:=he2.some
   by_cases ht:u.k=0
   ·have e1:tk 0 [] (u::r)=.ok u (u::r):=by simp [tk,ht]
    have e2:(wantS 0 [] (.ok (u::r))).2=.ok r:=by simp [wantS,wantT,headT,ht]
    rw[batchT_ok hc e1,e2]
    unfold chkB ovS
    split
    ·rfl
    ·rfl
   ·have e1:tk 0 [] (u::r)=.bad u.p 80:=by simp [tk,ht]
    have e2:(wantS 0 [] (.ok (u::r))).2=.bad u.p 80:=by simp [wantS,wantT,headT,ht]
    rw[batchT_bad2 hc e1,e2,ovS_bad]
    rfl
structure RI (w0 w:World) (b:Nat) (vt:Value) (S:LS) (cs:Array Value) (rv:Value) (xs:List Vl):Prop where
 f:FI w0 w b vt S cs
 tr:w.ownsRow w0.heap.size 69 3 rv xs.length (xs.flatMap Vl.cells)
section
variable {w0 w w' w1 : World} {b : Nat} {vt : Value} {S S' : LS} {cs : Array Value} {rv rv' : Value} {xs : List Vl}
theorem RI.line (h:RI w0 w b vt S cs rv xs) (hm:MT b [101] w w') (hl:Ln w' b S' vt) (hg:Good S'):RI w0 w' b vt S' cs rv xs :=
 ⟨h.f.line hm hl hg,hm.ownsRow h.tr (by decide)⟩
theorem RI.keep (h:RI w0 w b vt S cs rv xs) (hb:Below w.heap.size w w'):RI w0 w' b vt S cs rv xs :=
 ⟨h.f.keep hb,(MT.ofBelow (B:=0) (Ts:=[]) hb).ownsRow h.tr (by simp)⟩
theorem RI.row {x:Vl} (h:RI w0 w b vt S cs rv xs) (hb:b<=w0.heap.size) (hg:w.grownBy w1 rv.ownBlock)
 (hown:w1.ownsRow w0.heap.size 69 3 rv' (xs.length+1) ((xs.flatMap Vl.cells)++x.cells)):RI w0 (w1.setCell ⟨w0.heap.size,10,none⟩ rv') b vt S (cs.setIfInBounds 10 rv') rv' (xs++[x]):=by
 have m:MT w0.heap.size [69] w w1:=(MT.refl w).grown hg h.tr (by simp) (Nat.le_refl _)
 have m0:MT b [101] w0 w1:=Mod.grown h.f.mt hg fun k hk hlt=>by
  have:=(h.tr.lt k hk).1
  omega
 have f1:FI w0 w1 b vt S cs:=⟨h.f.ln.mt m (by decide) (by decide),m0,h.f.q.mt m (by decide),h.f.z.mt m (by decide),h.f.g⟩
 have ms:MT 0 [39] w1 (w1.setCell ⟨w0.heap.size,10,none⟩ rv'):=MT.setCell (MT.refl w1) f1.q (by simp) (Nat.zero_le _) _
 refine⟨f1.store hb 10 rv',?_⟩
 have:=ms.ownsRow hown (by decide)
 simpa using this
end
theorem law_nr {P:PR Cmd} {c:List Tok} {K:Int} {T1:Tok} {S1 se:LS} {xs:List Vl} (hP:P=bindP (nmP1 c) fun x c1=>bindP (listP litP c1) fun l c2=>.ok { cmd0 with kind:=K,nm:=x,row:=l } c2) (he:Ended c) (hT:(wantS 1 [] (.ok c)).1=T1) (hS:(wantS 1 [] (.ok c)).2=S1)
 (hx:(listS ltS S1).1=xs) (hs:(listS ltS S1).2=se):FR se { cmd0 with kind:=K,nm:=T1.x,row:=xs } P:=by
 have h:=nmS_ok he
 subst hP
 unfold bindP
 cases hq:nmP1 c with
 | bad a e =>
   rw[hq] at h
   have h1:S1=.bad a e:=hS.symm.trans h
   subst h1
   show se=_
   rw[<-hs,listS_bad]
 | ok x r =>
   rw[hq] at h
   obtain⟨h1,h2,h3⟩:=h
   have h4:S1=.ok r:=hS.symm.trans h2
   subst h4
   have h5:=listS_ok ltS_ok lit_less r h3
   simp only
   cases hq2:listP litP r with
   | bad a e =>
     rw[hq2] at h5
     show se=_
     rw[<-hs]
     first | exact h5 | (rw[h5])
   | ok l c2 =>
     rw[hq2] at h5
     simp only at h5
     obtain⟨h6,h7⟩:=h5
     rw[h6] at hx hs
     refine⟨hs.symm,?_⟩
     rw[<-h1,hT,<-hx]
set_option maxHeartbeats 8000000 in
set_option maxRecDepth 100000 in
theorem fld_nr (w:World) (b:Nat) (vt:Value) (c:List Tok) (K:Int) (h:Ln w b (.ok c) vt) (hg:Good (.ok c)) (P:PR Cmd) (hP:P=bindP (nmP1 c) fun x c1=>bindP (listP litP c1) fun l c2=>.ok { cmd0 with kind:=K,nm:=x,row:=l } c2)
 :
  Calls Tryz.prog 59 #[.pointer (some ⟨b,0,none⟩),.agg #[.int .i64 K,.string ⟨#[]⟩,.slice none 0 0,.string ⟨#[]⟩,.slice none 0 0,.slice none 0 0,.slice none 0 0,.string ⟨#[]⟩,.int .i64 0,.int .i64 0,.slice none 0 0],.string ⟨#[110,114]⟩] w (FPost w b vt P):=by
 obtain⟨iv,hiv,hv0,hv1,hv2⟩:=info_parts Tryz.infoVal
 have hbl:=h.lt
 have bk:Below w.heap.size w ((w.alloc (.cells #[.int .i64 K,.string ⟨#[]⟩,.slice none 0 0,.string ⟨#[]⟩,.slice none 0 0,.slice none 0 0,.slice none 0 0,.string ⟨#[]⟩,.int .i64 0,.int .i64 0,.slice none 0 0] 39)).alloc (.cells #[.int .i64 0,.string ⟨#[]⟩,.slice none 0 0,.string ⟨#[]⟩,.slice none 0 0,.slice none 0 0,.slice none 0 0,.string ⟨#[]⟩,.int .i64 0,.int .i64 0,.slice none 0 0] 39)):=balloc (balloc (Below.refl _ _) _) _
 have hf:FI w ((w.alloc (.cells #[.int .i64 K,.string ⟨#[]⟩,.slice none 0 0,.string ⟨#[]⟩,.slice none 0 0,.slice none 0 0,.slice none 0 0,.string ⟨#[]⟩,.int .i64 0,.int .i64 0,.slice none 0 0] 39)).alloc (.cells #[.int .i64 0,.string ⟨#[]⟩,.slice none 0 0,.string ⟨#[]⟩,.slice none 0 0,.slice none 0 0,.slice none 0 0,.string ⟨#[]⟩,.int .i64 0,.int .i64 0,.slice none 0 0] 39)) b vt (.ok c) #[.int .i64 K,.string ⟨#[]⟩,.slice none 0 0,.string ⟨#[]⟩,.slice none 0 0,.slice none 0 0,.slice none 0 0,.string ⟨#[]⟩,.int .i64 0,.int .i64 0,.slice none 0 0]:=⟨h.keep bk,MT.ofBelow bk,(Blk.new _ _ _).alloc _,blkNew1 _ _ _ _,hg⟩
 obtain⟨W0,hW0⟩:∃ W0,(w.alloc (.cells #[.int .i64 K,.string ⟨#[]⟩,.slice none 0 0,.string ⟨#[]⟩,.slice none 0 0,.slice none 0 0,.slice none 0 0,.string ⟨#[]⟩,.int .i64 0,.int .i64 0,.slice none 0 0] 39)).alloc (.cells #[.int .i64 0,.string ⟨#[]⟩,.slice none 0 0,.string ⟨#[]⟩,.slice none 0 0,.slice none 0 0,.slice none 0 0,.string ⟨#[]⟩,.int .i64 0,.int .i64 0,.slice none 0 0] 39)=W0:=⟨_,rfl⟩
 rw[hW0] at hf
 have HW0:=Lib.hid hW0
 have HF0:=Lib.hid hf
 have HPOST:=Lib.hid hP
 have hf2:∀ (a b c d e f:Value) (w:World),(Instr.field 105 (.agg #[a,b,c,d,e,f]) 2).run Tryz.prog w=.ok (.agg #[c,d,e]) w:=fun _ _ _ _ _ _ _=>by kernel_rfl
 have hf1:∀ (a b c d e f:Value) (w:World),(Instr.field 105 (.agg #[a,b,c,d,e,f]) 1).run Tryz.prog w=.ok b w:=fun _ _ _ _ _ _ _=>by kernel_rfl
 have hf3:∀ (a b c:Value) (w:World),(Instr.field 69 (.agg #[a,b,c]) 1).run Tryz.prog w=.ok b w:=fun _ _ _ _=>by kernel_rfl
 clear h bk hf hW0 hP
 go_enter Tryz.func59,Tryz.ntmps59
 go_upto_region 1 with fail
 rw[HW0.out]
 go_wp2_with fail
 refine wp_loop_rounds 3 ?_
 rw[rounds_succ]
 have hc:=want_ln HF0.out.ln HF0.out.g 1 []
 have hgd:=want_good (x:=[]) (k:=1) (by decide) HF0.out.g
 obtain⟨T1,hT1⟩:∃ T,(wantS 1 [] (.ok c)).1=T:=⟨_,rfl⟩
 obtain⟨S1,hS1⟩:∃ S,(wantS 1 [] (.ok c)).2=S:=⟨_,rfl⟩
 rw[hS1] at hc hgd
 rw[hT1] at hc
 unfold Tok.v at hc
 have HC:=Lib.hid hc
 have HG1:=Lib.hid hgd
 have HT1:=Lib.hid hT1
 have HS1:=Lib.hid hS1
 clear hc hgd hT1 hS1
 go_wp2_with fail
 refine HC.out.mono ?_
 rintro e w1 ⟨rfl,hl,hm⟩
 have hf1:=HF0.out.line hm hl HG1.out
 clear HC hl hm HF0
 have pl:=hf1.q.lt
 have k7:=hf1.q.cell 7
 have y7:=hf1.q.frozen 7
 simp only[List.getElem?_toArray,List.getElem?_cons_zero,List.getElem?_cons_succ] at k7
 have hs1:FI w (w1.setCell ⟨w.heap.size,7,none⟩ (.string ⟨T1.x.toArray⟩)) b vt S1 #[.int .i64 K,.string ⟨#[]⟩,.slice none 0 0,.string ⟨#[]⟩,.slice none 0 0,.slice none 0 0,.slice none 0 0,.string ⟨T1.x.toArray⟩,.int .i64 0,.int .i64 0,.slice none 0 0]:=hf1.store (Nat.le_of_lt hbl) 7 (.string ⟨T1.x.toArray⟩)
 have HF1:=Lib.hid hs1
 clear hf1 hs1
 go_wp2_with fail
 rw[rounds_succ]
 have hwy:=want_ln HF1.out.ln HF1.out.g 3 [40]
 have hg4:Good (wantS 3 [40] S1).2:=want_good (by decide) HF1.out.g
 have hls1:∀ x,(listS ltS S1).1=x ↔ (gloop ltS (meas (wantS 3 [40] S1).2+1) (wantS 3 [40] S1).2 []).2=x:=fun x=>Iff.rfl
 have hls2:∀ x,(listS ltS S1).2=x ↔ (wantS 3 [41] (gloop ltS (meas (wantS 3 [40] S1).2+1) (wantS 3 [40] S1).2 []).1).2=x:=fun x=>Iff.rfl
 generalize wantS 3 [40] S1=X at hwy hg4 hls1 hls2
 obtain⟨t4,sc⟩:=X
 simp only at hwy hg4 hls1 hls2
 obtain⟨G3,hG3⟩:∃ G3,gloop ltS (meas sc+1) sc []=G3:=⟨_,rfl⟩
 rw[hG3] at hls1 hls2
 have HWY:=Lib.hid hwy
 have HG4:=Lib.hid hg4
 have HL1:=Lib.hid hls1
 have HL2:=Lib.hid hls2
 have HG3':=Lib.hid hG3
 clear hwy hg4 hls1 hls2 hG3
 unfold Tok.v at HWY
 go_wp2_with fail
 refine HWY.out.mono ?_
 rintro e wf ⟨rfl,hlf,hmf⟩
 have hmed:=ln_meas hlf
 have HCF:=Lib.hid (⟨HF1.out.line hmf hlf HG4.out,World.ownsRow_nil _ _ _ _⟩:RI w wf b vt sc #[.int .i64 K,.string ⟨#[]⟩,.slice none 0 0,.string ⟨#[]⟩,.slice none 0 0,.slice none 0 0,.slice none 0 0,.string ⟨T1.x.toArray⟩,.int .i64 0,.int .i64 0,.slice none 0 0] (.slice none 0 0) [])
 clear hlf hmf HF1 HWY pl k7 y7
 go_wp2_with fail
 go_loopw [] (fun wr=>∃ (s3:LS) (xs:List Vl) (f3:Nat) (ja:Option Addr) (jc:Nat),xs.length+f3<=200010/\meas s3<=f3/\(xs=[]->meas s3<f3)/\Hid (gloop ltS f3 s3 xs=G3)/\Hid (RI w wr b vt s3 #[.int .i64 K,.string ⟨#[]⟩,.slice none 0 0,.string ⟨#[]⟩,.slice none 0 0,.slice none 0 0,.slice none 0 0,.string ⟨T1.x.toArray⟩,.int .i64 0,.int .i64 0,.slice ja xs.length jc] (.slice ja xs.length jc) xs)) (fun wr=>300000 - (match wr.cell? ⟨w.heap.size,10,none⟩ with | some (.slice _ n _)=>n | _=>0))
 case atStart=>exact⟨sc,[],meas sc+1,none,0,by simp;omega,by omega,fun _=>by omega,HG3',HCF⟩
 case round =>
  obtain⟨s3,xs,f3,ja,jc,hbd3,hf3,hf30,HGL,HIN⟩:=hrel
  have hgs:=HIN.out.f.g
  have hmo:=more_ln HIN.out.f.ln hgs xs.length (by omega)
  have x1:=HIN.out.f.q.cell 10
  simp only[List.getElem?_toArray,List.getElem?_cons_zero,List.getElem?_cons_succ] at x1
  have xe:=x1
  have xl:=HIN.out.f.q.lt
  cases hc1:(moreS xs.length s3).1 with
  | false =>
    rw[hc1,more_false hc1] at hmo
    have hge:=HGL.out
    rw[gloop_end ltS f3 hc1] at hge
    have hw9:=fun W (h:Ln W b s3 vt)=>want_ln h hgs 3 [41]
    have hg9:Good (wantS 3 [41] s3).2:=want_good (by decide) hgs
    have hl1:=(HL1.out xs).2 (by rw[<-hge])
    have hl2:=(HL2.out (wantS 3 [41] s3).2).2 (by rw[<-hge])
    generalize wantS 3 [41] s3=X at hw9 hg9 hl2
    obtain⟨t5,se⟩:=X
    simp only at hw9 hg9 hl2
    have HM:=Lib.hid hmo
    have HW9:=Lib.hid hw9
    have HG9:=Lib.hid hg9
    have HLS:=Lib.hid hl1
    have HLE:=Lib.hid hl2
    clear hmo hge hw9 hg9 hl1 hl2 hc1 HGL hgs hf3 hf30 xe HL1 HL2 HG3'
    unfold Tok.v at HW9
    go_wp2_with fail
    refine HM.out.mono ?_
    rintro e wh ⟨rfl,hlh,hmh⟩
    have inf:=HIN.out.line hmh hlh HIN.out.f.g
    have HWF:=Lib.hid (HW9.out _ inf.f.ln)
    have HINF:=Lib.hid inf
    clear inf hlh hmh HM HIN HW9 x1 xl
    go_wp2_with fail
    refine HWF.out.mono ?_
    rintro e w9 ⟨rfl,hli,hmi⟩
    have ing:=HINF.out.line hmi hli HG9.out
    have HF9:=Lib.hid ing.f
    have HTR9:=Lib.hid ing.tr
    clear ing hli hmi HINF HWF
    go_wp2_with fail
    rw[rounds_succ]
    have pl:=HF9.out.q.lt
    have k0:=HF9.out.q.cell 0
    have y0:=HF9.out.q.frozen 0
    have k1:=HF9.out.q.cell 1
    have y1:=HF9.out.q.frozen 1
    have k2:=HF9.out.q.cell 2
    have y2:=HF9.out.q.frozen 2
    have k3:=HF9.out.q.cell 3
    have y3:=HF9.out.q.frozen 3
    have k4:=HF9.out.q.cell 4
    have y4:=HF9.out.q.frozen 4
    have k5:=HF9.out.q.cell 5
    have y5:=HF9.out.q.frozen 5
    have k6:=HF9.out.q.cell 6
    have y6:=HF9.out.q.frozen 6
    have k7:=HF9.out.q.cell 7
    have y7:=HF9.out.q.frozen 7
    have k8:=HF9.out.q.cell 8
    have y8:=HF9.out.q.frozen 8
    have k9:=HF9.out.q.cell 9
    have y9:=HF9.out.q.frozen 9
    have k10:=HF9.out.q.cell 10
    have y10:=HF9.out.q.frozen 10
    simp only[List.getElem?_toArray,List.getElem?_cons_zero,List.getElem?_cons_succ] at k0 k1 k2 k3 k4 k5 k6 k7 k8 k9 k10
    have hz:=HF9.out.z
    have lz:=hz.lt
    have HZ:=Lib.hid hz
    have hcm:∀ w4,Blk w4 (w.heap.size+1) 39 #[.int .i64 K,.string ⟨#[]⟩,.slice none 0 0,.string ⟨#[]⟩,.slice none 0 0,.slice none 0 0,.slice none 0 0,.string ⟨T1.x.toArray⟩,.int .i64 0,.int .i64 0,.slice ja xs.length jc]->Mod (fun k=>k=w.heap.size+1) w9 w4->FPost w b vt P (.returned (.agg #[.int .i64 K,.string ⟨#[]⟩,.slice none 0 0,.string ⟨#[]⟩,.slice none 0 0,.slice none 0 0,.slice none 0 0,.string ⟨T1.x.toArray⟩,.int .i64 0,.int .i64 0,.slice ja xs.length jc])) w4:=by
     intro w4 hb4 hm4
     have m4:MT 0 [39] w9 w4:=MT.ofMod hm4 HZ.out (by simp) (Nat.zero_le _)
     exact⟨_,{ cmd0 with kind:=K,nm:=T1.x,row:=xs },se,rfl,⟨_,_,_,_,_,rfl,World.ownsRow_nil _ _ _ _,World.ownsRow_nil _ _ _ _,⟨[],World.ownsRow_nil _ _ _ _,trivial⟩,⟨[],World.ownsRow_nil _ _ _ _,trivial⟩,(by rw[map_flat];exact m4.ownsRow HTR9.out (by decide))⟩,HF9.out.ln.mt m4 (by decide) (by decide),HF9.out.g,HF9.out.mt.own hm4 (by omega),law_nr HPOST.out hg HT1.out HS1.out HLS.out HLE.out⟩
    have HCM:=Lib.hid hcm
    clear hcm hz
    go_wp2_with (refine wpList_store_blk rfl 39 _ _ rfl (w.heap.size+1) 39 _ _ rfl rfl HZ.out (by kernel_rfl) rfl (by simp [Value.oneCell']) ?_)
    intro w4 hb4 hm4 hz4
    clear pl k0 y0 k1 y1 k2 y2 k3 y3 k4 y4 k5 y5 k6 y6 k7 y7 k8 y8 k9 y9 k10 y10
    have r0:=hb4.cell 0
    have r1:=hb4.cell 1
    have r2:=hb4.cell 2
    have r3:=hb4.cell 3
    have r4:=hb4.cell 4
    have r5:=hb4.cell 5
    have r6:=hb4.cell 6
    have r7:=hb4.cell 7
    have r8:=hb4.cell 8
    have r9:=hb4.cell 9
    have r10:=hb4.cell 10
    simp only[List.getElem?_toArray,List.getElem?_cons_zero,List.getElem?_cons_succ] at r0 r1 r2 r3 r4 r5 r6 r7 r8 r9 r10
    have HP4:=Lib.hid (HCM.out w4 hb4 hm4)
    clear hb4 hm4 hz4
    go_wp2_with fail
    exact bodyPost_ret (v:=.agg #[.int .i64 K,.string ⟨#[]⟩,.slice none 0 0,.string ⟨#[]⟩,.slice none 0 0,.slice none 0 0,.slice none 0 0,.string ⟨T1.x.toArray⟩,.int .i64 0,.int .i64 0,.slice ja xs.length jc]) (by simp [results,Tryz.results59,go_sem, *]) rfl HP4.out
  | true =>
    obtain⟨f3,rfl⟩:∃ g,f3=g+1:=⟨f3 - 1,by have:=(more_meas hgs hc1).1;omega⟩
    have hgl:=HGL.out
    rw[gloop_go ltS f3 hc1] at hgl
    obtain⟨hme1,hme2,hme3⟩:=more_meas hgs hc1
    have hme4:meas (moreS xs.length s3).2<=f3:=by
     by_cases h0:xs=[]
     ·have:=hf30 h0;omega
     ·have:=hme3 (fun e=>h0 (List.eq_nil_of_length_eq_zero e));omega
    rw[hc1] at hmo
    have hgm:Good (moreS xs.length s3).2:=more_good hgs
    generalize (moreS xs.length s3).2=s4 at hmo hgl hme4 hgm
    have hwz:=fun W (h:Ln W b s4 vt)=>want_ln h hgm 2 []
    have hgz:Good (wantS 2 [] s4).2:=want_good (by decide) hgm
    have hwm:=want_meas 2 [] s4
    simp only[ltS] at hgl
    generalize wantS 2 [] s4=X at hwz hgz hwm hgl
    obtain⟨t5,sf⟩:=X
    simp only at hwz hgz hwm hgl
    have hmsf:meas sf<=f3:=by omega
    have HM:=Lib.hid hmo
    have HWZ:=Lib.hid hwz
    have HGM:=Lib.hid hgm
    have HGZ:=Lib.hid hgz
    have HGL2:=Lib.hid hgl
    clear hgl hmo hgm hwz hgz hwm hme1 hme2 hme3 hme4 hc1 HGL hgs hf3 hf30
    unfold Tok.v at HWZ
    go_wp2_with fail
    refine HM.out.mono ?_
    rintro e wh ⟨rfl,hlh,hmh⟩
    have inf:=HIN.out.line hmh hlh HGM.out
    have HW9:=Lib.hid (HWZ.out wh.drew (inf.f.ln.keep (bdrew (Below.refl _ _))))
    have x1:=inf.f.q.cell 10
    have xl:=inf.f.q.lt
    simp only[List.getElem?_toArray,List.getElem?_cons_zero,List.getElem?_cons_succ] at x1
    have HINF:=Lib.hid inf
    have HXE:=Lib.hid xe
    clear inf hlh hmh HM HIN HWZ xe
    go_wp2_with fail
    go_region_law (first
     | (refine step_append_lies _ rfl (.tmp 36) (.tmp 40) 32 rfl w.heap.size 69 iv (.agg #[.int .i64 0,.int .i64 0,.string ⟨#[]⟩]) 3 32 Tryz.underlying32 hiv hv0 hv1 hv2 rfl (by decide) (.slice ja xs.length jc) xs.length _ rfl (HTR.out.alloc _) ⟨_,0,none⟩ 1 1 [.int .i64 t5.vk,.int .i64 t5.vn,.string ⟨t5.vt.toArray⟩] rfl rfl (World.news_of_block (Blk.new _ _ _)) (by simp [Value.oneCell']) (by decide) (by unfold maxLen;omega) (by omega) (by simp;omega) _ rfl ?_;intro g3 cap3 wi hown3 hgrow3 hat3 hlt3;have ai:=(HINH.out.f.q.alloc (.cells #[.int .i64 t5.vk,.int .i64 t5.vn,.string ⟨t5.vt.toArray⟩] 69)).grown hgrow3 HNT.out;have z1:=ai.cell 10;have zy:=ai.frozen 10;have zl:=ai.lt;simp only[List.getElem?_toArray,List.getElem?_cons_zero,List.getElem?_cons_succ] at z1)
     | (go_simp;go_at_call 55;refine HW9.out.mono ?_;rintro e wk ⟨rfl,hlk,hmk⟩;have ink:=(HINF.out.keep (bdrew (Below.refl _ _))).line hmk hlk HGZ.out;have x1h:=ink.f.q.cell 10;simp only[List.getElem?_toArray,List.getElem?_cons_zero,List.getElem?_cons_succ] at x1h;have xlh:=ink.f.q.lt;have HINH:=Lib.hid ink;have HTR:=Lib.hid ink.tr;have hwh:=ink.f.q.lt;have HNT:=Lib.hid (fun e=>own_blk_ne ink.tr ink.f.q (by decide) (Eq.symm e));clear ink hlk hmk))
    all_goals
     have inj:=(HINH.out.keep (balloc (Below.refl _ _) _)).row (x:=⟨t5.vk,t5.vn,t5.vt⟩) (rv':=.slice (some ⟨g3,0,none⟩) (xs.length+1) cap3) (Nat.le_of_lt hbl) hgrow3 hown3
     have xj:=inj.f.q.cell 10
     simp only[List.setIfInBounds_toArray,List.set_cons_succ,List.set_cons_zero,List.getElem?_toArray,List.getElem?_cons_zero,List.getElem?_cons_succ] at xj inj
     have HINJ:=Lib.hid inj
     have HXJ:=Lib.hid xj
     clear inj xj hown3 hgrow3 hat3 hlt3
     go_wp2_with fail
     go_roundw
     case rel=>exact⟨sf,xs++[⟨t5.vk,t5.vn,t5.vt⟩],f3,some ⟨g3,0,none⟩,cap3,by simp;omega,hmsf,by simp,HGL2,Lib.hid (by simpa using HINJ.out)⟩
     case measure =>
      rw[HXJ.out,HXE.out]
      simp
      omega
end Go.Proofs.YtamjadghncnbcaaGreatDoor
