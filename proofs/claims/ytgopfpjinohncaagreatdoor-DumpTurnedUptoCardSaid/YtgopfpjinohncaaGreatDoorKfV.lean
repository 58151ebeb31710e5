/- osierref08.Copy, Same over the same, walked. The document's reading of a declaration, plainly; it tells what the program's reading tells. A declaration's text is cut into tokens, and read as the declaration: plainly. schema.Show, walked. osierlaw08.awake, walked. What is read is right, and a fault's place stands in the line: plainly. schema.Show and osierref08.Show at any relation. -/
import Derived.Test.YtgopfpjinohncaaGreatDoorKaV
import Derived.Test.YtgopfpjinohncaaGreatDoorGmV
import Derived.Test.YtgopfpjinohncaaGreatDoorGnV
import Derived.Test.YtgopfpjinohncaaGreatDoorLfV
import Derived.Test.YtgopfpjinohncaaGreatDoorShelfJZV
import Derived.Test.YtgopfpjinohncaaGreatDoorKdV
import Derived.Test.YtgopfpjinohncaaGreatDoorGaV
import Derived.Test.YtgopfpjinohncaaGreatDoorLxV
import Derived.Test.YtgopfpjinohncaaGreatDoorLbV
import Derived.Test.YtgopfpjinohncaaGreatDoorLaV
import Derived.Deep.RegionLaw
import Derived.Deep.QuietTactic
import Derived.BigQuiet
import Derived.OwnWalk
import Derived.KernelRfl
import Derived.Lib.ConvBytes
import Derived.Lib.ItoaLen
import Derived.Deep.RegionHeld3
import Derived.Deep.MidRow
namespace Go.Proofs.YtgopfpjinohncaaGreatDoor
open Go.RowKit
set_option linter.unusedVariables false
theorem Tryz.infoCl:(Tryz.prog.info? 109).map (fun i=>(i.zero,i.size,i.bytes))=some (some (.agg #[.string ⟨#[]⟩,.int .i64 0]),2,24):=by kernel_rfl
set_option maxHeartbeats 2000000 in
set_option maxRecDepth 100000 in
theorem copyRel_any (w:World) (rel:ByteArray) (tv:Value) (ts:List Col) (h:RowAt w tv 2 (ts.map Col.cells)) (hn:ts.length<=5864062014634) :
 Calls Tryz.prog 28 #[.agg #[.string rel,tv]] w fun e w'=>∃ v,e=.returned (.agg #[.string rel,v])/\w'.ownsRow w.heap.size 109 2 v ts.length (ts.map Col.cells).flatten/\Below w.heap.size w w':=by
 obtain⟨i0,hi0,hz0,hz1,hz2⟩:=info_parts Tryz.infoCl
 obtain⟨ad,cap,rfl,hnc,hcm⟩:=h.form
 simp only[List.length_map] at hnc ⊢
 unfold maxLen at hcm
 have HL:=Lib.hid (col_len ts)
 have HO:=Lib.hid (col_one ts)
 have hlen:(ts.map Col.cells).length=ts.length:=by simp
 generalize ts.map Col.cells=xs at *
 generalize hN:ts.length=n at *
 rw[hlen] at h
 have HR:=Lib.hid h
 have HX:=Lib.hid hlen
 have HBX:=Lib.hid ((Blk.new w 57 #[.string rel,.slice ad n cap]).alloc (.cells #[.string ⟨#[]⟩,.slice none 0 0] 57))
 have HBY:=Lib.hid (blkNew1 w (.cells #[.string rel,.slice ad n cap] 57) 57 #[.string ⟨#[]⟩,.slice none 0 0])
 have HB0:=Lib.hid (balloc (balloc (Below.refl w.heap.size w) (.cells #[.string rel,.slice ad n cap] 57)) (.cells #[.string ⟨#[]⟩,.slice none 0 0] 57))
 clear h hN hlen
 go_enter Tryz.func28,Tryz.ntmps28
 go_wp2_with (at_make;refine wpList_make_full _ rfl _ _ 55 rfl w.heap.size 109 i0 (.agg #[.string ⟨#[]⟩,.int .i64 0]) 2 Tryz.underlying55 hi0 hz0 hz1 _ _ _ _ n rfl rfl rfl rfl ?b2 ?b3 ?b4 ?_)
 case b2=>rw[hz2];omega
 case b3=>unfold maxLen;omega
 case b4=>simp<;>omega
 intro w2 hown2 hgrow2
 have HOW2:=Lib.hid hown2
 have hbw2:Below w.heap.size w w2:=HB0.out.grown hgrow2 (by simp<;>omega) (fun q hq=>by cases hq)
 have HBW2:=Lib.hid hbw2
 have HR2:=Lib.hid (HR.out.keep hbw2)
 have bx:=HBX.out.grown hgrow2 (by simp)
 have hby:=HBY.out.grown hgrow2 (by simp)
 have x0:=bx.cell 0
 have x1:=bx.cell 1
 simp only[List.getElem?_toArray,List.getElem?_cons_zero,List.getElem?_cons_succ] at x0 x1
 have hxl:=bx.lt
 have HBX2:=Lib.hid bx
 have HBY2:=Lib.hid hby
 clear hbw2 hown2 hgrow2 bx hby
 go_wp2_with (refine wpList_copy_full rfl _ _ _ _ rfl 109 2 Tryz.underlying55 (by kernel_rfl) (w.heap.size+1+1) n _ rfl rfl _ w.heap.size HOW2.out xs HR2.out HX.out HL.out HO.out (by omega) ?_)
 intro w3 hown3 hmod3 hsz3
 have HOW3:=Lib.hid hown3
 have hbw3:=Mod.own HBW2.out hmod3 (by omega)
 have bx:=HBX2.out.mod hmod3 (by omega)
 have hby:=HBY2.out.mod hmod3 (by omega)
 have x0:=bx.cell 0
 simp only[List.getElem?_toArray,List.getElem?_cons_zero] at x0
 have hxl:=bx.lt
 have HBW3:=Lib.hid hbw3
 have HBY3:=Lib.hid hby
 clear hown3 hmod3 hsz3 bx hby hbw3
 go_wp2_with (refine wpList_store_blk rfl 57 _ _ rfl (w.heap.size+1) 57 _ _ rfl rfl HBY3.out (by kernel_rfl) rfl (by simp [Value.oneCell']) ?_)
 intro w4 hb4 hm4 hz4
 have r0:=hb4.cell 0
 have r1:=hb4.cell 1
 have HB4:=Lib.hid (Mod.own HBW3.out hm4 (by omega))
 have HO4:=Lib.hid (hm4.ownsRow HOW3.out (by intro q hq;simp [Value.ownBlock] at hq;omega))
 simp only[List.getElem?_toArray,List.getElem?_cons_zero,List.getElem?_cons_succ] at r0 r1
 clear hb4 hm4 hz4
 go_wp2_with fail
 exact bodyPost_ret (v:=.agg #[.string rel,.slice (some ⟨w.heap.size+1+1,0,none⟩) n n]) (by simp [results,Tryz.results28,go_sem, *]) rfl ⟨_,rfl,HO4.out,HB4.out⟩
abbrev intX:List UInt8:=[105,110,116]
abbrev textX:List UInt8:=[116,101,120,116]
def kdS (s:LS):Int × LS:=if isS 1 textX s=true then (2,(wantS 1 textX s).2) else (1,(wantS 1 intX s).2)
def clS (s:LS):ClP × LS:=(((wantS 1 [] s).1.x,(kdS (wantS 1 [] s).2).1,(wantS 1 [] s).1.p),(kdS (wantS 1 [] s).2).2)
theorem clS_ok:StepOk colP clS:=by
 intro c he
 have h1:=want_tk0 (k:=1) he (by decide)
 unfold clS
 cases ho:tk 1 [] c with
 | bad a e =>
   rw[ho] at h1
   simp only at h1
   rw[col_bad1 ho,h1]
   rfl
 | ok t c1 =>
   rw[ho] at h1
   obtain⟨h1,he1⟩:=h1
   rw[h1]
   simp only
   obtain⟨u,r,rfl⟩:=he1.some
   by_cases hk:u.k=1
   ·by_cases ht:u.x=textX
    ·have hu:tk 1 [intX,textX] (u::r)=.ok u r:=by simp [tk,hk,ht]
     rw[col_ok ho hu]
     have hi:isS 1 textX (.ok (u::r))=true:=by simp [isS,isT,headT,hk,ht]
     unfold kdS
     rw[if_pos hi]
     refine⟨?_,he1.cons (by omega)⟩
     simp [wantS,wantT,headT,hk,ht]
    ·have hi:isS 1 textX (.ok (u::r))=false:=by simp [isS,isT,headT,hk,ht]
     unfold kdS
     rw[if_neg (by rw[hi];decide)]
     by_cases hn:u.x=intX
     ·have hu:tk 1 [intX,textX] (u::r)=.ok u r:=by simp [tk,hk,hn]
      rw[col_ok ho hu]
      refine⟨?_,he1.cons (by omega)⟩
      simp [wantS,wantT,headT,hk,hn]
     ·have hu:tk 1 [intX,textX] (u::r)=.bad u.p 80:=by simp [tk,hk,hn,ht]
      rw[col_bad2 ho hu]
      simp [wantS,wantT,headT,hk,hn]
   ·have hi:isS 1 textX (.ok (u::r))=false:=by simp [isS,isT,headT,hk]
    unfold kdS
    rw[if_neg (by rw[hi];decide)]
    have hu:tk 1 [intX,textX] (u::r)=.bad u.p 80:=by simp [tk,hk]
    rw[col_bad2 ho hu]
    simp [wantS,wantT,headT,hk]
def twS (l:List ClP):Nat->Nat->LS->LS
 | 0,_,s=>s
 | m+1,k,s=>twS l m (k+1) (match l[k]? with
   | some h=>if h.1∈(l.take k).map (·.1) then failS h.2.2 82 s else s
   | none=>s)
def manyS (l:List ClP) (s:LS):LS:=match l[5]? with
 | some c=>failS c.2.2 81 s
 | none=>s
def outR (s:LS) (r:Rln):PR Rln:=match s with
 | .bad a e=>.bad a e
 | .ok _=>.ok r []
def sEnd (l:List ClP) (s:LS):LS:=twS l l.length 0 (manyS l s)
def r3 (nm:List UInt8) (l:List ClP) (X:Tok × LS):PR Rln:=outR (sEnd l X.2) (rlnOf nm l)
def r2 (nm:List UInt8) (l:List ClP) (X:Tok × LS):PR Rln:=r3 nm l (wantS 0 [] X.2)
def r1 (nm:List UInt8) (G:LS × List ClP):PR Rln:=r2 nm G.2 (wantS 3 [41] G.1)
def r0 (nm:List UInt8) (X:Tok × LS):PR Rln:=r1 nm (gloop clS (meas X.2+1) X.2 [])
def rq (X:Tok × LS):PR Rln:=r0 X.1.x (wantS 3 [40] X.2)
def refS (s:LS):PR Rln:=rq (wantS 1 [] s)
theorem twS_bad (l:List ClP) (a e:Int):∀ (m k:Nat),twS l m k (.bad a e)=.bad a e
 | 0,_=>rfl
 | m+1,k=>by
   unfold twS
   cases l[k]? with
   | none=>exact twS_bad l a e m (k+1)
   | some h =>
     simp only
     split<;>exact twS_bad l a e m (k+1)
theorem manyS_bad (l:List ClP) (a e:Int):manyS l (.bad a e)=.bad a e:=by
 unfold manyS
 cases l[5]? <;> rfl
theorem sEnd_bad (l:List ClP) (a e:Int):sEnd l (.bad a e)=.bad a e:=by
 unfold sEnd
 rw[manyS_bad,twS_bad]
theorem r1_bad (nm:List UInt8) (a e:Int) (l:List ClP):r1 nm (.bad a e,l)=.bad a e:=by
 show outR (sEnd l (.bad a e)) _=_
 rw[sEnd_bad]
 rfl
theorem r0_bad (nm:List UInt8) (t:Tok) (a e:Int):r0 nm (t,.bad a e)=.bad a e:=by
 unfold r0
 rw[gloop_bad]
 exact r1_bad nm a e []
theorem refS_bad (a e:Int):refS (.bad a e)=.bad a e:=r0_bad tok0.x tok0 a e
theorem twS_run (l:List ClP) (c:List Tok):∀ (m k:Nat),k+m=l.length ->
 twS l m k (.ok c)=.ok c/\againG (((l.map clC).take k).map (·.x)) ((l.map clC).drop k) k = -1∨∃ (j:Nat) (h:ClP),l[j]? = some h/\againG (((l.map clC).take k).map (·.x)) ((l.map clC).drop k) k=j/\twS l m k (.ok c)=.bad h.2.2 82
 | 0,k,hk=>by
   have:(l.map clC).drop k=[]:=List.drop_of_length_le (by simp;omega)
   rw[this]
   exact .inl ⟨rfl,rfl⟩
 | m+1,k,hk=>by
   obtain⟨h,hh⟩:∃ h,l[k]? = some h:=⟨l[k]'(by omega),List.getElem?_eq_getElem (by omega)⟩
   have hx:(l.map clC)[k]? = some (clC h):=by simp [hh]
   have hn:((l.map clC).take k).map (·.x)=(l.take k).map (·.1):=by
    rw[<-List.map_take,List.map_map]
    rfl
   unfold twS
   rw[hh]
   simp only
   by_cases hm:h.1∈(l.take k).map (·.1)
   ·rw[again_hit hx (by rw[hn];exact hm),if_pos hm]
    refine .inr ⟨k,h,hh,rfl,?_⟩
    simp only[failS]
    exact twS_bad l _ _ m (k+1)
   ·rw[again_step hx (by rw[hn];exact hm),if_neg hm]
    exact twS_run l c m (k+1) (by omega)
theorem sEnd_ok (nm:List UInt8) (l:List ClP) (c:List Tok):outR (sEnd l (.ok c)) (rlnOf nm l)=chkS nm l:=by
 unfold sEnd manyS
 cases h5:l[5]? with
 | some a =>
   rw[chkS_many h5]
   simp only[failS]
   rw[twS_bad]
   rfl
 | none =>
   simp only
   rcases twS_run l c l.length 0 (by omega) with ⟨h1,h2⟩ | ⟨j,h,h1,h2,h3⟩
   ·rw[h1,chkS_ok h5 h2]
    rfl
   ·rw[h3,chkS_again h5 h2 h1]
    rfl
theorem refS_ok {ts:List Tok} (h:Ended ts):refS (.ok ts)=schT ts:=by
 have h1:=want_tk0 (k:=1) h (by decide)
 unfold refS rq
 cases ho:tk 1 [] ts with
 | bad a e =>
   rw[ho] at h1
   simp only at h1
   rw[schT_bad1 ho,h1]
   exact r0_bad _ _ a e
 | ok t c1 =>
   rw[ho] at h1
   obtain⟨h1,he1⟩:=h1
   rw[h1]
   have h2:=listS_ok clS_ok col_less c1 he1
   simp only
   cases h3:listP colP c1 with
   | bad a e =>
     rw[h3] at h2
     rw[schT_bad2 ho h3]
     simp only at h2
     unfold listS at h2
     simp only at h2
     show outR (sEnd _ (wantS 0 [] (wantS 3 [41] (gloop clS (meas (wantS 3 [40] (.ok c1)).2+1) (wantS 3 [40] (.ok c1)).2 []).1).2).2) _=_
     rw[h2]
     show outR (sEnd _ (.bad a e)) _=_
     rw[sEnd_bad]
     rfl
   | ok l c2 =>
     rw[h3] at h2
     obtain⟨h2,he2⟩:=h2
     unfold listS at h2
     simp only[Prod.mk.injEq] at h2
     obtain⟨h2a,h2b⟩:=h2
     show outR (sEnd (gloop clS (meas (wantS 3 [40] (.ok c1)).2+1) (wantS 3 [40] (.ok c1)).2 []).2 (wantS 0 [] (wantS 3 [41] (gloop clS (meas (wantS 3 [40] (.ok c1)).2+1) (wantS 3 [40] (.ok c1)).2 []).1).2).2) (rlnOf t.x (gloop clS (meas (wantS 3 [40] (.ok c1)).2+1) (wantS 3 [40] (.ok c1)).2 []).2)=_
     rw[h2a,h2b]
     obtain⟨u,r,rfl⟩:=he2.some
     by_cases ht:u.k=0
     ·have e1:tk 0 [] (u::r)=.ok u (u::r):=by simp [tk,ht]
      have e2:(wantS 0 [] (.ok (u::r))).2=.ok r:=by simp [wantS,wantT,headT,ht]
      rw[schT_ok ho h3 e1,e2]
      exact sEnd_ok t.x l r
     ·have e1:tk 0 [] (u::r)=.bad u.p 80:=by simp [tk,ht]
      have e2:(wantS 0 [] (.ok (u::r))).2=.bad u.p 80:=by simp [wantS,wantT,headT,ht]
      rw[schT_bad3 ho h3 e1,e2,sEnd_bad]
      rfl
theorem chkC_ok {nm:List UInt8} {cs:List Col} (h:chkC nm cs=0):isNameB nm=true/\(∀ c∈cs,isNameB c.x=true/\badK c=false)/\cs.length<=5/\againI cs = -1:=by
 unfold chkC at h
 split at h
 ·cases h
 ·rename_i h1
  split at h
  ·cases h
  ·rename_i h2
   split at h
   ·cases h
   ·rename_i h3
    split at h
    ·cases h
    ·rename_i h4
     split at h
     ·cases h
     ·rename_i h5
      refine⟨by simpa using h1,fun c hc=>⟨?_,?_⟩,by omega,?_⟩
      ·have:=List.any_eq_false.1 (by simpa using h2:(cs.any fun c => !isNameB c.x)=false) c hc
       simpa using this
      ·have:=List.any_eq_false.1 (by simpa using h4:cs.any badK=false) c hc
       simpa using this
      ·rcases again_range cs [] 0 with h6 | ⟨j,h6,_⟩
       ·exact h6
       ·exact absurd (show 0<=againI cs by unfold againI;rw[h6];exact Int.natCast_nonneg _) h5
theorem chkC_mk {nm:List UInt8} {cs:List Col} (h1:isNameB nm=true) (h2:∀ c∈cs,isNameB c.x=true/\badK c=false) (h3:cs.length<=5) (h4:againI cs = -1):chkC nm cs=0:=by
 unfold chkC
 rw[if_neg (by rw[h1];decide),if_neg,if_neg (by omega),if_neg,if_neg (by rw[h4];decide)]
 ·have:cs.any badK=false:=List.any_eq_false.2 fun c hc=>by rw[(h2 c hc).2];decide
  rw[this]
  decide
 ·have:(cs.any fun c => !isNameB c.x)=false:=List.any_eq_false.2 fun c hc=>by rw[(h2 c hc).1];decide
  rw[this]
  decide
theorem nm_len {x:List UInt8} (h:isNameB x=true):1<=x.length/\x.length<=16:=by
 unfold isNameB at h
 simp only[decide_eq_true_eq] at h
 exact⟨List.length_pos_iff.2 h.1,h.2.2.2⟩
theorem show_len {nm:List UInt8} {cs:List Col} (h:chkC nm cs=0):1<=(showC nm cs).length/\(showC nm cs).length<=16384:=by
 obtain⟨h1,h2,h3,h4⟩:=chkC_ok h
 have hn:=nm_len h1
 have ht:∀ c∈cs,(colT c).length<=21:=by
  intro c hc
  have:=nm_len (h2 c hc).1
  unfold colT kindN
  simp only[List.length_append,List.length_cons,List.length_nil]
  split<;>simp<;>omega
 have hj:∀ l:List (List UInt8),(∀ x∈l,x.length<=21)->(Lib.join l [44,32]).length<=23 * l.length:=by
  intro l hl
  cases l with
  | nil=>simp [Lib.join_nil]
  | cons x r =>
    rw[Lib.join_cons,List.length_append,Lib.joinTail_length]
    have h1:=hl x List.mem_cons_self
    have h2:Lib.lens r<=21 * r.length:=by
     have:∀ r:List (List UInt8),(∀ x∈r,x.length<=21)->Lib.lens r<=21 * r.length:=by
      intro r
      induction r with
      | nil=>intro _;simp [Lib.lens]
      | cons y r ih =>
        intro hr
        have h3:=ih fun z hz=>hr z (List.mem_cons_of_mem _ hz)
        have h4:=hr y List.mem_cons_self
        simp only[Lib.lens,List.map_cons,List.sum_cons,List.length_cons] at h3 ⊢
        omega
     exact this r fun z hz=>hl z (List.mem_cons_of_mem _ hz)
    simp only[List.length_cons,List.length_nil]
    omega
 have:=hj (cs.map colT) (by intro x hx;simp at hx;obtain⟨c,hc,rfl⟩:=hx;exact ht c hc)
 rw[List.length_map] at this
 unfold showC
 rw[if_pos h]
 simp only[List.length_append,List.length_cons,List.length_nil]
 omega
theorem Tryz.infoTx:(Tryz.prog.info? 9).map (fun i=>(i.zero,i.size,i.bytes))=some (some (.string ⟨#[]⟩),1,16):=by kernel_rfl
def rowT (cs:List Col) (k:Nat):List (List UInt8):=(cs.take k).map colT++(cs.drop k).map fun _=>[]
theorem rowT_len (cs:List Col) (k:Nat):(rowT cs k).length=cs.length:=by
 unfold rowT
 simp
 omega
theorem rowT_set {cs:List Col} {k:Nat} {c:Col} (h:cs[k]? = some c):(rowT cs k).set k (colT c)=rowT cs (k+1):=by
 have hk:=(List.getElem?_eq_some_iff.1 h).1
 have hl:((cs.take k).map colT).length=k:=by rw[List.length_map,List.length_take];omega
 have e1:(cs.take (k+1)).map colT=(cs.take k).map colT++[colT c]:=by
  rw[List.take_add_one,h]
  simp
 have e2:cs.drop k=cs[k]::cs.drop (k+1):=List.drop_eq_getElem_cons hk
 unfold rowT
 rw[e1,e2,List.map_cons,List.set_append_right _ _ (by omega),hl,Nat.sub_self,List.set_cons_zero,List.append_assoc]
 rfl
theorem empties:∀ l:List Col,List.replicate l.length [Value.string ⟨#[]⟩]=(l.map fun _=>([]:List UInt8)).map strC
 | []=>rfl
 | _::l=>by
   simp only[List.length_cons,List.replicate_succ,List.map_cons]
   rw[empties l]
   rfl
theorem rowT_zero (cs:List Col):(madeCells #[.string ⟨#[]⟩] cs.length).toList=((rowT cs 0).map strC).flatten:=by
 have h:=made_rows [.string ⟨#[]⟩] cs.length (by simp)
 rw[empties cs,show cs.length * ([Value.string ⟨#[]⟩]:List Value).length=cs.length from Nat.mul_one _] at h
 unfold rowT
 simp only[List.take_zero,List.map_nil,List.drop_zero,List.nil_append]
 exact h
theorem rowT_all (cs:List Col):rowT cs cs.length=cs.map colT:=by
 unfold rowT
 simp
theorem strC1 (l:List (List UInt8)):∀ x∈l.map strC,x.length=1:=by
 intro x hx
 simp at hx
 obtain⟨t,_,rfl⟩:=hx
 rfl
theorem own_setText {w:World} {g k n cap base:Nat} {l:List (List UInt8)} {s:List UInt8} (hown:w.ownsRow base 9 1 (.slice (some ⟨g,0,none⟩) n cap) n (l.map strC).flatten) (hn:l.length=n) (hk:k<n) :
 (w.setCell ⟨g,k,none⟩ (.string ⟨s.toArray⟩)).ownsRow base 9 1 (.slice (some ⟨g,0,none⟩) n cap) n ((l.set k s).map strC).flatten/\Mod (fun j=>j=g) w (w.setCell ⟨g,k,none⟩ (.string ⟨s.toArray⟩)):=by
 have h:=own_setCells (cells:=[.string ⟨s.toArray⟩]) hown (strC1 l) (by rw[List.length_map,hn]) hk (by intro v hv;simp at hv;subst hv;rfl)
 have e:w.setCells g (k * ([Value.string ⟨s.toArray⟩]:List Value).length) [.string ⟨s.toArray⟩]=w.setCell ⟨g,k,none⟩ (.string ⟨s.toArray⟩):=by
  simp [World.setCells]
 rw[e] at h
 rw[List.map_set]
 exact⟨h.1,h.2.1⟩
theorem Mod.ownZ {b g:Nat} {w0 w w':World} (hz:w0.heap.size=g) (h:Below g w0 w) (hm:Mod (fun k=>k=b) w w') (hb:g<=b):Below g w0 w':=by
 subst hz
 exact Mod.own h hm hb
theorem Blk.belowZ {g b:Nat} {w0 w:World} {t:TypeId} {cs:Array Value} (hz:w0.heap.size=g) (h:Blk w0 b t cs) (hb:Below g w0 w):Blk w b t cs:=by
 subst hz
 exact h.below hb h.lt
theorem Below.allocZ {g:Nat} {w0 w:World} (hz:w0.heap.size=g) (h:Below g w0 w) (o:Obj):Below g w0 (w.alloc o):=by
 subst hz
 exact balloc h o
theorem text_cells {w:World} {g n cap base:Nat} {l:List (List UInt8)} (hown:w.ownsRow base 9 1 (.slice (some ⟨g,0,none⟩) n cap) n (l.map strC).flatten) (hn:l.length=n) (j:Nat) (x:ByteArray) (hx:(l.map fun s=>(⟨s.toArray⟩:ByteArray))[j]? = some x):w.cell? ⟨g,0+j,none⟩=some (.string x):=by
 rw[List.getElem?_map] at hx
 cases hs:l[j]? with
 | none=>rw[hs] at hx;simp at hx
 | some s =>
   rw[hs] at hx
   simp at hx
   subst hx
   have hj:=(List.getElem?_eq_some_iff.1 hs).1
   have h1:=hown.cellAt j (by omega)
   have h2:=flatten_at (strC1 l) (i:=j) (j:=0) (x:=strC s) (u:=.string ⟨s.toArray⟩) (by simp [hs]) rfl
   simp only[Nat.mul_one,Nat.add_zero] at h2
   rw[Nat.zero_add]
   exact h1.trans h2
theorem texts_back (l:List (List UInt8)):(l.map fun s=>(⟨s.toArray⟩:ByteArray)).map (·.data.toList)=l:=by
 rw[List.map_map]
 conv=>rhs;rw[<-List.map_id l]
 apply List.map_congr_left
 intro a _
 simp
set_option maxHeartbeats 2000000 in
set_option maxRecDepth 100000 in
theorem show_bad8 (w:World) (nm:ByteArray) (v:Value) (cs:List Col) (h:ColsAt w v cs) (hn:nm.size<=140737488355328) (hc:∀ c∈cs,c.x.length<=140737488355328) (hk:chkC nm.data.toList cs≠0) :
 Calls Tryz.prog 68 #[.agg #[.string nm,v]] w fun e w'=>e=.returned (.string ⟨#[]⟩)/\Below w.heap.size w w':=by
 have hb0:Below w.heap.size w (w.alloc (.cells #[.string nm,v] 57)):=balloc (Below.refl _ _) _
 have hch:=check_any _ nm v cs (h.keep hb0) hn hc
 have q0:(chkC nm.data.toList cs != 0)=true:=by simpa using hk
 have HC:=Lib.hid hch
 have HB0:=Lib.hid hb0
 clear hch hb0 h hn hc hk
 generalize chkC nm.data.toList cs=ch at *
 go_enter Tryz.func68,Tryz.ntmps68
 go_wp2_with fail
 refine HC.out.mono ?_
 rintro e w2 ⟨rfl,hb2⟩
 have HB2:=Lib.hid (HB0.out.trans (hb2.mono (by simp)))
 clear hb2
 go_wp2_with fail
 go_ret
 exact⟨rfl,HB2.out⟩
set_option maxHeartbeats 8000000 in
set_option maxRecDepth 100000 in
theorem show_good8 (w:World) (nm:ByteArray) (v:Value) (cs:List Col) (h:ColsAt w v cs) (hk:chkC nm.data.toList cs=0) :
 Calls Tryz.prog 68 #[.agg #[.string nm,v]] w fun e w'=>e=.returned (.string ⟨(showC nm.data.toList cs).toArray⟩)/\Below w.heap.size w w':=by
 obtain⟨i0,hi0,hz0,hz1,hz2⟩:=info_parts Tryz.infoTx
 obtain⟨k1,k2,k3,k4⟩:=chkC_ok hk
 have hnl:=nm_len k1
 have hsh:=(show_len hk).2
 have hb0:Below w.heap.size w (w.alloc (.cells #[.string nm,v] 57)):=balloc (Below.refl _ _) _
 have hbx:=Blk.new w 57 #[.string nm,v]
 have hch:=check_any _ nm v cs (h.keep hb0) (by have:nm.size=nm.data.toList.length:=rfl;omega) (fun c hc=>by have:=nm_len (k2 c hc).1;omega)
 rw[hk] at hch
 obtain⟨ad,cap,rfl,hnc,hcm⟩:=h.form
 have hnz:nm.size<=16:=hnl.2
 have hcx:∀ c∈cs,c.x.length<=16:=fun c hc=>(nm_len (k2 c hc).1).2
 have hjn:(Lib.join (rowT cs cs.length) [44,32]).length<=16384/\showC nm.data.toList cs=nm.data.toList++[40]++Lib.join (rowT cs cs.length) [44,32]++[41]:=by
  have e:showC nm.data.toList cs=nm.data.toList++[40]++Lib.join (cs.map colT) [44,32]++[41]:=by
   unfold showC
   rw[if_pos hk]
  rw[rowT_all]
  rw[e] at hsh
  simp only[List.length_append] at hsh
  exact⟨by omega,e⟩
 obtain⟨hjl,hjs⟩:=hjn
 rw[hjs]
 have HR:=Lib.hid h
 have HJL:=Lib.hid hjl
 have HC:=Lib.hid hch
 have HB0:=Lib.hid hb0
 have HBX:=Lib.hid hbx
 have HCX:=Lib.hid hcx
 have hrl:=rowT_len cs
 have hr0:=rowT_zero cs
 have hrs:=fun k c=>rowT_set (cs:=cs) (k:=k) (c:=c)
 have HRS:=Lib.hid hrs
 clear h hch hb0 hbx k1 k2 k4 hk hsh hnl hjl hjs hcx hrs
 generalize hN:cs.length=n at *
 have HN:=Lib.hid hN
 have HRL:=Lib.hid hrl
 have HR0:=Lib.hid hr0
 clear hN hrl hr0
 go_enter Tryz.func68,Tryz.ntmps68
 go_wp2_with fail
 refine HC.out.mono ?_
 rintro e w2 ⟨rfl,hb2⟩
 have HB2:=Lib.hid (HB0.out.trans (hb2.mono (by simp)))
 have HBX2:=Lib.hid (HBX.out.below hb2 (by simp))
 have x1:=HBX2.out.cell 1
 simp only[List.getElem?_toArray,List.getElem?_cons_zero,List.getElem?_cons_succ] at x1
 have hxl:=HBX2.out.lt
 clear hb2 HC
 go_wp2_with (at_make;refine wpList_make_full _ rfl _ _ 28 rfl w.heap.size 9 i0 (.string ⟨#[]⟩) 1 Tryz.underlying28 hi0 hz0 hz1 _ _ _ _ n rfl rfl rfl rfl ?b2 ?b3 ?b4 ?_)
 case b2=>rw[hz2];omega
 case b3=>unfold maxLen;omega
 case b4=>exact HB2.out.size
 intro w5 hown5 hgrow5
 rw[HR0.out] at hown5
 have HO5:=Lib.hid hown5
 have hb5:Below w2.heap.size w2 w5:=Below.grown (Below.refl _ _) hgrow5 (Nat.le_refl _) (fun q hq=>by cases hq)
 have HB5:=Lib.hid hb5
 have HBX5:=Lib.hid (HBX2.out.below hb5 HBX2.out.lt)
 have x1:=HBX5.out.cell 1
 simp only[List.getElem?_toArray,List.getElem?_cons_zero,List.getElem?_cons_succ] at x1
 have hxl:=HBX5.out.lt
 have hw2:=HB2.out.size
 have HW2:=Lib.hid hw2
 generalize hgz:w2.heap.size=g at *
 have HGZ:=Lib.hid hgz
 clear hown5 hgrow5 hgz hb5
 go_wp2_with fail
 go_loopw [16] (fun i wr=>∃ k:Nat,k<=n/\i=.int .i64 k/\Hid (wr.ownsRow w.heap.size 9 1 (.slice (some ⟨g,0,none⟩) n n) n ((rowT cs k).map strC).flatten)/\Hid (Below g w2 wr)) (fun i _=>n - (intOf i).toNat)
 case atStart=>exact⟨0,Nat.zero_le _,rfl,HO5,HB5⟩
 case round =>
  obtain⟨k,hk,rfl,OW,BG⟩:=hrel
  have hbw:Below w.heap.size w wr:=HB2.out.trans (BG.out.mono HW2.out)
  have BW:=Lib.hid hbw
  by_cases hkn:k<n
  ·obtain⟨c,hc⟩:∃ c,cs[k]? = some c:=⟨cs[k]'(by rw[HN.out];exact hkn),List.getElem?_eq_getElem (by rw[HN.out];exact hkn)⟩
   obtain⟨tb,tfo,tcap,htv,_,_,htbl,t0,t1⟩:=(ColsAt.keep HR.out BW.out).get hc
   simp only[HN.out,Value.slice.injEq,true_and] at htv
   obtain⟨rfl,rfl⟩:=htv
   have hcx:=HCX.out c (List.mem_of_getElem? hc)
   have hset:=HRS.out k c hc
   have HSET:=Lib.hid hset
   obtain⟨⟨u,hu⟩,hfz,hgl⟩:=own_cell OW.out hkn (j:=0) (by decide)
   simp only[Nat.mul_one,Nat.add_zero] at hu hfz
   have hkl:(kindN c.k).length<=4:=by
    unfold kindN
    split<;>simp
   have hcT:colT c=c.x++[32]++kindN c.k:=rfl
   have HK:=Lib.hid (fun W=>kindName_any c.k W)
   rw[hcT] at HSET
   generalize kindN c.k=kn at *
   have hl1:¬ 9223372036854775807<c.x.length+1:=by omega
   have hl2:¬ 9223372036854775807<c.x.length+1+kn.length:=by omega
   have hcc:(ByteArray.mk c.x.toArray++ByteArray.mk #[32])++ByteArray.mk kn.toArray=⟨(c.x++[32]++kn).toArray⟩:=by
    apply ByteArray.ext
    simp
   have HCC:=Lib.hid hcc
   have hdk:decide ((k:Int)<0)=false:=by simp
   have hdn:decide ((n:Int)<=(k:Int))=false:=by simp;omega
   have hgw:g≠wr.heap.size:=by omega
   clear hc hset hcT hcc
   go_wp2_with fail
   go_region_law (go_simp;go_at_call 148;refine (HK.out _).mono ?_;rintro e w6 ⟨rfl,rfl⟩)
   all_goals
    go_wp2_with fail
    go_roundw
    case rel =>
     have h2:=own_setText (s:=c.x++[32]++kn) OW.out (HRL.out k) hkn
     rw[HSET.out] at h2
     refine⟨k+1,by omega,by go_num,Lib.hid ?_,Lib.hid ?_⟩
     ·rw[HCC.out]
      exact (MT.ofBelow (B:=0) (Ts:=[]) (bdrew (balloc (Below.refl _ _) _))).ownsRow h2.1 (by simp)
     ·rw[HCC.out]
      exact bdrew (Below.allocZ HGZ.out (Mod.ownZ HGZ.out BG.out h2.2 (Nat.le_refl _)) _)
    case measure=>simp [intOf];omega
  ·obtain rfl:k=n:=by omega
   have hxb:=Blk.belowZ HGZ.out HBX2.out BG.out
   have x0:=hxb.cell 0
   have x1:=hxb.cell 1
   simp only[List.getElem?_toArray,List.getElem?_cons_zero,List.getElem?_cons_succ] at x0 x1
   have hxl:=hxb.lt
   have hgl:=(OW.out.lt g rfl).2
   have ho:=(MT.ofBelow (B:=0) (Ts:=[]) (bdrew (Below.refl wr.heap.size wr))).ownsRow OW.out (by simp)
   have hj:=Tryz.strings_Join g 0 k ((rowT cs k).map fun s=>(⟨s.toArray⟩:ByteArray)) ⟨#[44,32]⟩ wr.drew (text_cells ho (HRL.out k)) (by simpa using hgl) (by rw[List.length_map,HRL.out k];omega) (by rw[List.length_map,HRL.out k];exact Nat.le_refl _) (by rw[texts_back];exact Nat.le_trans HJL.out (by decide))
   rw[texts_back,List.length_map,HRL.out k] at hj
   have hjl:(Lib.join (rowT cs k) [44,32]).length<=16384:=HJL.out
   have hj':Calls Tryz.prog 149 #[.slice (some ⟨g,0,none⟩) k k,.string ⟨#[44,32]⟩] wr.drew fun e w'=>e=.returned (.string ⟨(Lib.join (rowT cs k) [44,32]).toArray⟩)/\Below wr.drew.heap.size wr.drew w':=hj
   obtain⟨J,hJ⟩:∃ J,J=Lib.join (rowT cs k) [44,32]:=⟨_,rfl⟩
   rw[<-hJ] at hj' hjl
   have HJ:=Lib.hid hj'
   have hl1:¬ 9223372036854775807<nm.size+1:=by omega
   have hl2:¬ 9223372036854775807<nm.size+1+J.length:=by omega
   have hl3:¬ 9223372036854775807<nm.size+1+J.length+1:=by omega
   have hcc:nm++ByteArray.mk #[40]++ByteArray.mk J.toArray++ByteArray.mk #[41]=⟨(nm.data.toList++[40]++Lib.join (rowT cs k) [44,32]++[41]).toArray⟩:=by
    rw[<-hJ]
    apply ByteArray.ext
    simp
   have HCC:=Lib.hid hcc
   have HBB:=Lib.hid (bdrew BW.out)
   clear hxb ho hj hj' hcc hJ
   go_wp2_with fail
   go_region_law (go_simp;go_at_call 149;refine HJ.out.mono ?_;rintro e w6 ⟨rfl,hb6⟩;have y0:=(hb6.cell (p:=⟨w.heap.size,0,none⟩) hxl).trans (show wr.drew.cell? ⟨w.heap.size,0,none⟩=_ from x0))
   all_goals
    have HB6:=Lib.hid (HBB.out.trans (hb6.mono HBB.out.size))
    clear hb6
    go_wp2_with fail
    go_ret
    exact⟨(congrArg (fun x=>Ending.returned (Value.string x)) HCC.out),HB6.out⟩
theorem sch_line (s:ByteArray) (w:World) (hs:s.size<=281474976710656) (hg:Glob w) (he:(lexR s.data.toList).e=0) :
 Calls Tryz.prog 59 #[.string s] w (SPost w (schT (lexR s.data.toList).ts)) :=
 sch_good s w _ fun W hb=>open_good s W hs (hg.below hb) he
theorem sch_fault (s:ByteArray) (w:World) (hs:s.size<=281474976710656) (hg:Glob w) (he:(lexR s.data.toList).e≠0) :
 Calls Tryz.prog 59 #[.string s] w (SPost w (.bad (lexR s.data.toList).at_ (lexR s.data.toList).e)) :=
 sch_bad s w _ _ fun W hb=>open_bad s W hs (hg.below hb) he
def TokOk (N:Nat) (t:Tok):Prop:=(t.k=1->isNameB t.x=true)/\0<=t.p/\t.p<=N
def TInv (N:Nat) (c:List Tok):Prop:=(∀ t∈c,TokOk N t)/\Ended c
theorem TInv.next {N:Nat} {t:Tok} {r:List Tok} (h:TInv N (t::r)) (hk:t.k≠0):TInv N r:=⟨fun u hu=>h.1 u (List.mem_cons_of_mem _ hu),h.2.cons hk⟩
section
variable {α : Type} {N : Nat}
def SureP (N:Nat) (Q:α->Prop):PR α->Prop
 | .bad a e=>0<=a/\a<=N/\e≠0
 | .ok x c=>Q x/\TInv N c
def Sure (N:Nat) (P:List Tok->PR α) (Q:α->Prop):Prop:=∀ c,TInv N c->SureP N Q (P c)
theorem tk_sure (N:Nat) (k:Int) (xs:List (List UInt8)):Sure N (tk k xs) (fun t=>TokOk N t/\t.k=k):=by
 intro c h
 cases c with
 | nil=>exact h.2.elim
 | cons t r =>
   have ht:=h.1 t List.mem_cons_self
   show SureP N _ (if t.k=k/\(xs=[]∨t.x∈xs) then .ok t (if k=0 then t::r else r) else .bad t.p 80)
   split
   ·rename_i hc
    refine⟨⟨ht,hc.1⟩,?_⟩
    split
    ·exact h
    ·rename_i hk
     exact h.next (by rw[hc.1];exact hk)
   ·exact⟨ht.2.1,ht.2.2,by decide⟩
theorem more_sure {P:List Tok->PR α} {Q:α->Prop} (hP:Sure N P Q):∀ f,Sure N (moreP P f) (fun xs=>∀ x∈xs,Q x)
 | 0,c,h=>⟨by simp,h⟩
 | f+1,c,h=>by
   unfold moreP
   split
   ·rename_i him
    have hd:TInv N (c.drop 1):=by
     obtain⟨t,r,rfl⟩:=h.2.some
     have hh:t.k=3/\t.x=[44]:=by simpa [isM] using him
     exact h.next (by rw[hh.1];decide)
    have h1:=hP (c.drop 1) hd
    cases ho:P (c.drop 1) with
    | bad a e=>rw[ho] at h1;exact h1
    | ok x c1 =>
      rw[ho] at h1
      have h2:=more_sure hP f c1 h1.2
      simp only
      cases hm:moreP P f c1 with
      | bad a e=>rw[hm] at h2;exact h2
      | ok xs c2 =>
        rw[hm] at h2
        refine⟨fun y hy=>?_,h2.2⟩
        rcases List.mem_cons.1 hy with rfl | hy
        ·exact h1.1
        ·exact h2.1 y hy
   ·exact⟨by simp,h⟩
theorem some_sure {P:List Tok->PR α} {Q:α->Prop} (hP:Sure N P Q):Sure N (someP P) (fun xs=>∀ x∈xs,Q x):=by
 intro c h
 have h1:=hP c h
 unfold someP
 cases ho:P c with
 | bad a e=>rw[ho] at h1;exact h1
 | ok x c1 =>
   rw[ho] at h1
   have h2:=more_sure hP c1.length c1 h1.2
   simp only
   cases hm:moreP P c1.length c1 with
   | bad a e=>rw[hm] at h2;exact h2
   | ok xs c2 =>
     rw[hm] at h2
     refine⟨fun y hy=>?_,h2.2⟩
     rcases List.mem_cons.1 hy with rfl | hy
     ·exact h1.1
     ·exact h2.1 y hy
theorem list_sure {P:List Tok->PR α} {Q:α->Prop} (hP:Sure N P Q):Sure N (listP P) (fun xs=>∀ x∈xs,Q x):=by
 intro c h
 have h1:=tk_sure N 3 [[40]] c h
 unfold listP
 cases ho:tk 3 [[40]] c with
 | bad a e=>rw[ho] at h1;exact h1
 | ok t c1 =>
   rw[ho] at h1
   simp only
   have h2:SureP N (fun xs=>∀ x∈xs,Q x) (if isM [41] c1=true then (.ok [] c1:PR (List α)) else someP P c1):=by
    split
    ·exact⟨by simp,h1.2⟩
    ·exact some_sure hP c1 h1.2
   cases hm:(if isM [41] c1=true then (.ok [] c1:PR (List α)) else someP P c1) with
   | bad a e=>rw[hm] at h2;exact h2
   | ok xs c2 =>
     rw[hm] at h2
     have h3:=tk_sure N 3 [[41]] c2 h2.2
     simp only
     cases hk:tk 3 [[41]] c2 with
     | bad a e=>rw[hk] at h3;exact h3
     | ok u c3=>rw[hk] at h3;exact⟨h2.1,h3.2⟩
end
theorem col_sure (N:Nat):Sure N colP (fun x=>isNameB x.1=true/\badK (clC x)=false/\0<=x.2.2/\x.2.2<=N):=by
 intro c h
 have h1:=tk_sure N 1 [] c h
 unfold colP
 cases ho:tk 1 [] c with
 | bad a e=>rw[ho] at h1;exact h1
 | ok t c1 =>
   rw[ho] at h1
   have h2:=tk_sure N 1 [[105,110,116],[116,101,120,116]] c1 h1.2
   simp only
   cases hm:tk 1 [[105,110,116],[116,101,120,116]] c1 with
   | bad a e=>rw[hm] at h2;exact h2
   | ok u c2 =>
     rw[hm] at h2
     refine⟨⟨h1.1.1.1 h1.1.2,?_,h1.1.1.2⟩,h2.2⟩
     simp only[clC,badK]
     split<;>decide
theorem schT_sure {N:Nat} {ts:List Tok} (h:TInv N ts):match schT ts with
 | .bad a e=>0<=a/\a<=N/\e≠0
 | .ok r _=>chkC r.name r.cols=0:=by
 have h1:=tk_sure N 1 [] ts h
 cases ho:tk 1 [] ts with
 | bad a e=>rw[ho] at h1;rw[schT_bad1 ho];exact h1
 | ok t c1 =>
   rw[ho] at h1
   have h2:=list_sure (col_sure N) c1 h1.2
   cases hl:listP colP c1 with
   | bad a e=>rw[hl] at h2;rw[schT_bad2 ho hl];exact h2
   | ok l c2 =>
     rw[hl] at h2
     have h3:=tk_sure N 0 [] c2 h2.2
     cases hk:tk 0 [] c2 with
     | bad a e=>rw[hk] at h3;rw[schT_bad3 ho hl hk];exact h3
     | ok u c3 =>
       rw[schT_ok ho hl hk]
       cases h5:l[5]? with
       | some c =>
         rw[chkS_many h5]
         have h8:=(h2.1 c (List.mem_of_getElem? h5)).2.2
         exact⟨h8.1,h8.2,by decide⟩
       | none =>
         rcases again_range (l.map clC) [] 0 with h6 | ⟨j,h6,_,h7⟩
         ·rw[chkS_ok h5 h6]
          refine chkC_mk (h1.1.1.1 h1.1.2) ?_ ?_ h6
          ·intro c hc
           obtain⟨z,hz,rfl⟩:=List.mem_map.1 hc
           have:=h2.1 z hz
           exact⟨this.1,this.2.1⟩
          ·simp only[rlnOf,List.length_map]
           have:=List.getElem?_eq_none_iff.1 h5
           exact this
         ·obtain⟨c,hc⟩:∃ c,l[j]? = some c:=⟨l[j]'(by simpa using h7),List.getElem?_eq_getElem (by simpa using h7)⟩
          rw[chkS_again h5 h6 hc]
          have h8:=(h2.1 c (List.mem_of_getElem? hc)).2.2
          exact⟨h8.1,h8.2,by decide⟩
theorem run_name {r:List UInt8} (hl:letB (bt r 0)=true) (hr:r≠[]) (h16:nameRun r<=16):isNameB (r.take (nameRun r))=true:=by
 have hp:=nameRun_pos hr hl
 have hle:=nameRun_le r
 have e:r.take (nameRun r)=r.takeWhile fun c=>letB c.toNat || digB c.toNat:=by
  have h1:=List.takeWhile_prefix (fun c:UInt8=>letB c.toNat || digB c.toNat) (l:=r)
  exact (List.prefix_iff_eq_take.1 h1).symm
 have hall:∀ c∈r.take (nameRun r),(letB c.toNat || digB c.toNat)=true:=by
  intro c hc
  rw[e] at hc
  exact List.all_eq_true.1 (List.all_takeWhile (p:=fun c:UInt8=>letB c.toNat || digB c.toNat) (l:=r)) c hc
 have hlen:(r.take (nameRun r)).length=nameRun r:=by rw[List.length_take];omega
 have hrun:nameRun (r.take (nameRun r))=(r.take (nameRun r)).length:=by
  have:=List.takeWhile_append_of_pos (p:=fun c:UInt8=>letB c.toNat || digB c.toNat) (l₁:=r.take (nameRun r)) (l₂:=[]) (by simpa using hall)
  rw[List.append_nil] at this
  show (List.takeWhile _ (r.take (nameRun r))).length=_
  rw[this]
  simp
 unfold isNameB
 simp only[decide_eq_true_eq]
 refine⟨?_,?_,hrun,by omega⟩
 ·intro e2
  rw[e2] at hlen
  simp at hlen
  omega
 ·have:=bt_take_app (l:=r) (y:=[]) (n:=nameRun r) (j:=0) (by omega) hle
  rw[List.append_nil] at this
  rw[this]
  exact hl
theorem LX_toks:∀ (m:Nat) (r:List UInt8) (p:Nat),r.length<=m->(LX r p).e=0->∀ t∈(LX r p).ts,(t.k=1->isNameB t.x=true)/\(p:Int)<=t.p/\t.p<=((p+r.length:Nat):Int):=by
 intro m
 have hend:∀ (r:List UInt8) (p:Nat),r=[]∨bt r 0=35->∀ t∈(LX r p).ts,(t.k=1->isNameB t.x=true)/\(p:Int)<=t.p/\t.p<=((p+r.length:Nat):Int):=by
  intro r p h t ht
  rw[LX_end h] at ht
  simp only[List.mem_singleton] at ht
  subst ht
  exact⟨fun h=>by simp [endTok] at h,by simp only[endTok];omega,by simp [endTok]⟩
 induction m with
 | zero =>
   intro r p h _
   exact hend r p (.inl (List.length_eq_zero_iff.1 (by omega)))
 | succ m ih =>
   intro r p h
   by_cases h0:r=[]∨bt r 0=35
   ·exact fun _=>hend r p h0
   ·have hr:r≠[]:=fun e=>h0 (.inl e)
    have hl:=List.length_pos_iff.2 hr
    by_cases hb:spB (bt r 0)=true
    ·rw[LX_blank h0 hb]
     intro he t ht
     have:=ih _ _ (by rw[List.length_drop];omega) he t ht
     rw[List.length_drop] at this
     exact⟨this.1,by omega,by omega⟩
    ·have hb':spB (bt r 0)=false:=by simpa using hb
     by_cases he:(oneS r p).2=0
     ·obtain⟨l1,_,l3⟩:=one_len he hr
      obtain⟨_,k2⟩:=one_kind he
      rw[LX_one h0 hb' he]
      split
      ·rename_i h9
       intro h8
       exact absurd h8 h9
      ·rename_i h9
       intro _ t ht
       simp only[List.mem_cons] at ht
       rcases ht with rfl | ht
       ·refine⟨fun hk=>?_,by rw[k2];exact Int.le_refl _,by rw[k2];omega⟩
        obtain⟨a1,a2,a3⟩:=one_name he hk
        rw[a3]
        exact run_name a1 hr a2
       ·have:=ih (r.drop (oneS r p).1.x.length) (p+(oneS r p).1.x.length) (by rw[List.length_drop];omega) (by simpa using h9) t ht
        rw[List.length_drop] at this
        exact⟨this.1,by omega,by omega⟩
     ·rw[LX_bad h0 hb' he]
      exact fun h=>absurd h he
theorem lex_toks {l:List UInt8} (h:(lexR l).e=0) (he:Ended (lexR l).ts):TInv l.length (lexR l).ts:=by
 by_cases hl:16384<l.length
 ·rw[lexR_long hl] at h
  exact absurd h (by decide)
 ·rw[lexR_short (by omega)] at h ⊢
  rw[lexR_short (by omega)] at he
  refine⟨fun t ht=>?_,he⟩
  have:=LX_toks _ l 0 (Nat.le_refl _) h t ht
  exact⟨this.1,by have:=this.2.1;omega,by have:=this.2.2;omega⟩
theorem lex_place (l:List UInt8) (h:(lexR l).e≠0):0<=(lexR l).at_/\(lexR l).at_<=l.length:=by
 by_cases hl:16384<l.length
 ·rw[lexR_long hl]
  exact⟨by simp,by simp⟩
 ·rw[lexR_short (by omega)] at h ⊢
  obtain⟨n,ts,h1,h2,_⟩:=LX_fault _ l 0 (Nat.le_refl _) h
  rw[h1]
  exact⟨by omega,by omega⟩
theorem show_any8 (w:World) (nm:ByteArray) (v:Value) (cs:List Col) (h:ColsAt w v cs) (hn:nm.size<=140737488355328) (hc:∀ c∈cs,c.x.length<=140737488355328) :
 Calls Tryz.prog 68 #[.agg #[.string nm,v]] w fun e w'=>e=.returned (.string ⟨(showC nm.data.toList cs).toArray⟩)/\Below w.heap.size w w':=by
 by_cases hk:chkC nm.data.toList cs=0
 ·exact show_good8 w nm v cs h hk
 ·have e:showC nm.data.toList cs=[]:=by
   unfold showC
   rw[if_neg hk]
  rw[e]
  exact show_bad8 w nm v cs h hn hc hk
end Go.Proofs.YtgopfpjinohncaaGreatDoor
