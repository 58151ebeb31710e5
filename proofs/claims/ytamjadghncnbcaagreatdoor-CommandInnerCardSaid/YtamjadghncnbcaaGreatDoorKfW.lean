/- osierref08.Copy, Same over the same, walked. The document's reading of a declaration, plainly; it tells what the program's reading tells. What the document's Parse of a declaration keeps in memory; its end, plainly. A declaration's text is cut into tokens, and read as the declaration: plainly. schema.Show, walked. osierlaw08.awake, walked. What is read is right, and a fault's place stands in the line: plainly. -/
import Derived.Test.YtamjadghncnbcaaGreatDoorKaW
import Derived.Test.YtamjadghncnbcaaGreatDoorGmW
import Derived.Test.YtamjadghncnbcaaGreatDoorGfW
import Derived.Test.YtamjadghncnbcaaGreatDoorGgW
import Derived.Test.YtamjadghncnbcaaGreatDoorKdW
import Derived.Test.YtamjadghncnbcaaGreatDoorLfW
import Derived.Test.YtamjadghncnbcaaGreatDoorShelfJ
import Derived.Test.YtamjadghncnbcaaGreatDoorGoW
import Derived.Test.YtamjadghncnbcaaGreatDoorGaW
import Derived.Deep.RegionLaw
import Derived.Deep.QuietTactic
import Derived.BigQuiet
import Derived.OwnWalk
import Derived.KernelRfl
namespace Go.Proofs.YtamjadghncnbcaaGreatDoor
open Go.RowKit
set_option linter.unusedVariables false
theorem Tryz.infoCl:(Tryz.prog.info? 64).map (fun i=>(i.zero,i.size,i.bytes))=some (some (.agg #[.string ⟨#[]⟩,.int .i64 0]),2,24):=by kernel_rfl
set_option maxHeartbeats 1000000 in
theorem equal_col (d:Nat) (a b:Col) (w:World):(Op.equalIn (d+2) 64 (.agg a.cells.toArray) (.agg b.cells.toArray)).run Tryz.prog w=.ok (decide (a=b)) w:=by
 have hf:(Tryz.prog.fieldsOf 64).toList.map f3=[("Name",9,0),("Kind",62,1)]:=by kernel_rfl
 have p1:∀ w,(isAgg 62).run Tryz.prog w=.ok false w:=fun _=>by kernel_rfl
 have p3:∀ w,(isAgg 9).run Tryz.prog w=.ok false w:=fun _=>by kernel_rfl
 rw[run_equalIn_agg w (d+1) _ _ _ (by kernel_rfl) (by kernel_rfl),eqF_of,hf]
 have e1:=fun (x y:Int) (w:World)=>run_equalIn_int (P:=Tryz.prog) w d 62 .i64 .i64 x y Tryz.underlying62
 have e3:=fun (x y:ByteArray) (w:World)=>run_equalIn_string (P:=Tryz.prog) w d 9 x y Tryz.underlying9
 obtain⟨x,k⟩:=a
 obtain⟨x',k'⟩:=b
 simp only[Col.cells,eqF,part,Sem.run_bind,Sem.run_ite,p1,p3,Result.andThen_ok]
 by_cases h1:x=x'<;>by_cases h2:k=k'<;>simp [h1,h2,e1,e3,Col.mk.injEq]
theorem neq_col (a b:Col) (w:World):(binOp .neq 64 (.agg a.cells.toArray) (.agg b.cells.toArray)).run Tryz.prog w=.ok (.bool (!decide (a=b))) w:=by
 rw[run_neq_struct,equal_col 9998]
 rfl
set_option maxHeartbeats 4000000 in
set_option maxRecDepth 100000 in
theorem sameRel_any (w:World) (rel:ByteArray) (va vb:Value) (ts:List Col) (ha:RowAt w va 2 (ts.map Col.cells)) (hb:RowAt w vb 2 (ts.map Col.cells)) :
 Calls Tryz.prog 24 #[.agg #[.string rel,va],.agg #[.string rel,vb]] w fun e w'=>e=.returned (.bool true)/\Below w.heap.size w w':=by
 obtain⟨aa,ac,rfl,hac,ham⟩:=ha.form
 obtain⟨ba,bc,rfl,hbc,hbm⟩:=hb.form
 have hneq:∀ (x:List UInt8) (k:Int) (w:World),(binOp .neq 64 (.agg #[.string ⟨x.toArray⟩,.int .i64 k]) (.agg #[.string ⟨x.toArray⟩,.int .i64 k])).run Tryz.prog w=.ok (.bool false) w:=fun x k w=>by
  have:=neq_col ⟨x,k⟩ ⟨x,k⟩ w
  simpa [Col.cells] using this
 have hla:=ha.len
 unfold maxLen at ham hbm
 have HA:=Lib.hid ha
 have HB:=Lib.hid hb
 simp only[List.length_map] at hac hbc hla ⊢
 generalize hN:ts.length=n at *
 have HN:=Lib.hid hN
 clear ha hb hN
 go_enter Tryz.func24,Tryz.ntmps24
 go_wp2_with fail
 go_loopw [5] (fun i wr=>∃ k:Nat,k<=n/\i=.int .i64 k/\Hid (Blk wr w.heap.size 25 #[.string rel,.slice aa n ac])/\Hid (Blk wr (w.heap.size+1) 25 #[.string rel,.slice ba n bc])/\Hid (Below w.heap.size w wr)) (fun i _=>n - (intOf i).toNat)
 case atStart=>exact⟨0,Nat.zero_le _,rfl,Lib.hid ((Blk.new _ _ _).alloc _),Lib.hid (blkNew1 _ _ _ _),Lib.hid (balloc (balloc (Below.refl _ _) _) _)⟩
 case round =>
  obtain⟨k,hk,rfl,XA,XB,BW⟩:=hrel
  have a1:=XA.out.cell 1
  have b1:=XB.out.cell 1
  simp only[List.getElem?_toArray,List.getElem?_cons_zero,List.getElem?_cons_succ] at a1 b1
  have hal:=XA.out.lt
  have hbl:=XB.out.lt
  by_cases hlt:k<n
  ·obtain⟨t,ht⟩:∃ t,ts[k]? = some t:=⟨ts[k]'(by rw[HN.out];exact hlt),List.getElem?_eq_getElem (by rw[HN.out];exact hlt)⟩
   obtain⟨g1,o1,c1,hv1,_,_,hgl1,k1⟩:=(HA.out.keep BW.out).get (i:=k) (x:=t.cells) (by simp [ht])
   obtain⟨g2,o2,c2,hv2,_,_,hgl2,k2⟩:=(HB.out.keep BW.out).get (i:=k) (x:=t.cells) (by simp [ht])
   simp only[List.length_map,HN.out,Value.slice.injEq,true_and] at hv1 hv2
   obtain⟨rfl,rfl⟩:=hv1
   obtain⟨rfl,rfl⟩:=hv2
   have p0:=k1 0 _ rfl
   have p1:=k1 1 _ rfl
   have r0:=k2 0 _ rfl
   have r1:=k2 1 _ rfl
   simp only[Nat.add_zero] at p0 r0
   have hd:decide ((k:Int)<0)=false:=by simp
   have hd2:decide ((n:Int)<=(k:Int))=false:=by simp;omega
   clear k1 k2 ht
   go_wp2_with fail
   go_quiet (fail)
   go_wp2_with fail
   go_roundw
   case rel=>exact⟨k+1,by omega,by go_num,Lib.hid (XA.out.drewN _),Lib.hid (XB.out.drewN _),Lib.hid (bdrewN BW.out _)⟩
   case measure=>simp [intOf];omega
  ·obtain rfl:k=n:=by omega
   go_wp2_with fail
   go_ret
   exact⟨rfl,BW.out⟩
abbrev intX:List UInt8:=[105,110,116]
abbrev textX:List UInt8:=[116,101,120,116]
def kdS (s:LS):Int × LS:=if isS 1 textX s=true then (2,(wantS 1 textX s).2) else (1,(wantS 1 intX s).2)
def clS (s:LS):ClP × LS:=(((wantS 1 [] s).1.x,(kdS (wantS 1 [] s).2).1,(wantS 1 [] s).1.p),(kdS (wantS 1 [] s).2).2)
theorem clS_ok:StepOk colP clS:=by
 intro c he
 have h1:=want_tk0 (k:=1) he (by decide)
 unfold clS
 cases ho:tk 1 [] c with
 | bad a e =>
   rw[ho] at h1
   simp only at h1
   rw[col_bad1 ho,h1]
   rfl
 | ok t c1 =>
   rw[ho] at h1
   obtain⟨h1,he1⟩:=h1
   rw[h1]
   simp only
   obtain⟨u,r,rfl⟩:=he1.some
   by_cases hk:u.k=1
   ·by_cases ht:u.x=textX
    ·have hu:tk 1 [intX,textX] (u::r)=.ok u r:=by simp [tk,hk,ht]
     rw[col_ok ho hu]
     have hi:isS 1 textX (.ok (u::r))=true:=by simp [isS,isT,headT,hk,ht]
     unfold kdS
     rw[if_pos hi]
     refine⟨?_,he1.cons (by omega)⟩
     simp [wantS,wantT,headT,hk,ht]
    ·have hi:isS 1 textX (.ok (u::r))=false:=by simp [isS,isT,headT,hk,ht]
     unfold kdS
     rw[if_neg (by rw[hi];decide)]
     by_cases hn:u.x=intX
     ·have hu:tk 1 [intX,textX] (u::r)=.ok u r:=by simp [tk,hk,hn]
      rw[col_ok ho hu]
      refine⟨?_,he1.cons (by omega)⟩
      simp [wantS,wantT,headT,hk,hn]
     ·have hu:tk 1 [intX,textX] (u::r)=.bad u.p 80:=by simp [tk,hk,hn,ht]
      rw[col_bad2 ho hu]
      simp [wantS,wantT,headT,hk,hn]
   ·have hi:isS 1 textX (.ok (u::r))=false:=by simp [isS,isT,headT,hk]
    unfold kdS
    rw[if_neg (by rw[hi];decide)]
    have hu:tk 1 [intX,textX] (u::r)=.bad u.p 80:=by simp [tk,hk]
    rw[col_bad2 ho hu]
    simp [wantS,wantT,headT,hk]
def twS (l:List ClP):Nat->Nat->LS->LS
 | 0,_,s=>s
 | m+1,k,s=>twS l m (k+1) (match l[k]? with
   | some h=>if h.1∈(l.take k).map (·.1) then failS h.2.2 82 s else s
   | none=>s)
def manyS (l:List ClP) (s:LS):LS:=match l[5]? with
 | some c=>failS c.2.2 81 s
 | none=>s
def outR (s:LS) (r:Rln):PR Rln:=match s with
 | .bad a e=>.bad a e
 | .ok _=>.ok r []
def sEnd (l:List ClP) (s:LS):LS:=twS l l.length 0 (manyS l s)
def r3 (nm:List UInt8) (l:List ClP) (X:Tok × LS):PR Rln:=outR (sEnd l X.2) (rlnOf nm l)
def r2 (nm:List UInt8) (l:List ClP) (X:Tok × LS):PR Rln:=r3 nm l (wantS 0 [] X.2)
def r1 (nm:List UInt8) (G:LS × List ClP):PR Rln:=r2 nm G.2 (wantS 3 [41] G.1)
def r0 (nm:List UInt8) (X:Tok × LS):PR Rln:=r1 nm (gloop clS (meas X.2+1) X.2 [])
def rq (X:Tok × LS):PR Rln:=r0 X.1.x (wantS 3 [40] X.2)
def refS (s:LS):PR Rln:=rq (wantS 1 [] s)
theorem twS_bad (l:List ClP) (a e:Int):∀ (m k:Nat),twS l m k (.bad a e)=.bad a e
 | 0,_=>rfl
 | m+1,k=>by
   unfold twS
   cases l[k]? with
   | none=>exact twS_bad l a e m (k+1)
   | some h =>
     simp only
     split<;>exact twS_bad l a e m (k+1)
theorem manyS_bad (l:List ClP) (a e:Int):manyS l (.bad a e)=.bad a e:=by
 unfold manyS
 cases l[5]? <;> rfl
theorem sEnd_bad (l:List ClP) (a e:Int):sEnd l (.bad a e)=.bad a e:=by
 unfold sEnd
 rw[manyS_bad,twS_bad]
theorem r1_bad (nm:List UInt8) (a e:Int) (l:List ClP):r1 nm (.bad a e,l)=.bad a e:=by
 show outR (sEnd l (.bad a e)) _=_
 rw[sEnd_bad]
 rfl
theorem r0_bad (nm:List UInt8) (t:Tok) (a e:Int):r0 nm (t,.bad a e)=.bad a e:=by
 unfold r0
 rw[gloop_bad]
 exact r1_bad nm a e []
theorem refS_bad (a e:Int):refS (.bad a e)=.bad a e:=r0_bad tok0.x tok0 a e
theorem twS_run (l:List ClP) (c:List Tok):∀ (m k:Nat),k+m=l.length ->
 twS l m k (.ok c)=.ok c/\againG (((l.map clC).take k).map (·.x)) ((l.map clC).drop k) k = -1∨∃ (j:Nat) (h:ClP),l[j]? = some h/\againG (((l.map clC).take k).map (·.x)) ((l.map clC).drop k) k=j/\twS l m k (.ok c)=.bad h.2.2 82
 | 0,k,hk=>by
   have:(l.map clC).drop k=[]:=List.drop_of_length_le (by simp;omega)
   rw[this]
   exact .inl ⟨rfl,rfl⟩
 | m+1,k,hk=>by
   obtain⟨h,hh⟩:∃ h,l[k]? = some h:=⟨l[k]'(by omega),List.getElem?_eq_getElem (by omega)⟩
   have hx:(l.map clC)[k]? = some (clC h):=by simp [hh]
   have hn:((l.map clC).take k).map (·.x)=(l.take k).map (·.1):=by
    rw[<-List.map_take,List.map_map]
    rfl
   unfold twS
   rw[hh]
   simp only
   by_cases hm:h.1∈(l.take k).map (·.1)
   ·rw[again_hit hx (by rw[hn];exact hm),if_pos hm]
    refine .inr ⟨k,h,hh,rfl,?_⟩
    simp only[failS]
    exact twS_bad l _ _ m (k+1)
   ·rw[again_step hx (by rw[hn];exact hm),if_neg hm]
    exact twS_run l c m (k+1) (by omega)
theorem sEnd_ok (nm:List UInt8) (l:List ClP) (c:List Tok):outR (sEnd l (.ok c)) (rlnOf nm l)=chkS nm l:=by
 unfold sEnd manyS
 cases h5:l[5]? with
 | some a =>
   rw[chkS_many h5]
   simp only[failS]
   rw[twS_bad]
   rfl
 | none =>
   simp only
   rcases twS_run l c l.length 0 (by omega) with ⟨h1,h2⟩ | ⟨j,h,h1,h2,h3⟩
   ·rw[h1,chkS_ok h5 h2]
    rfl
   ·rw[h3,chkS_again h5 h2 h1]
    rfl
theorem refS_ok {ts:List Tok} (h:Ended ts):refS (.ok ts)=schT ts:=by
 have h1:=want_tk0 (k:=1) h (by decide)
 unfold refS rq
 cases ho:tk 1 [] ts with
 | bad a e =>
   rw[ho] at h1
   simp only at h1
   rw[schT_bad1 ho,h1]
   exact r0_bad _ _ a e
 | ok t c1 =>
   rw[ho] at h1
   obtain⟨h1,he1⟩:=h1
   rw[h1]
   have h2:=listS_ok clS_ok col_less c1 he1
   simp only
   cases h3:listP colP c1 with
   | bad a e =>
     rw[h3] at h2
     rw[schT_bad2 ho h3]
     simp only at h2
     unfold listS at h2
     simp only at h2
     show outR (sEnd _ (wantS 0 [] (wantS 3 [41] (gloop clS (meas (wantS 3 [40] (.ok c1)).2+1) (wantS 3 [40] (.ok c1)).2 []).1).2).2) _=_
     rw[h2]
     show outR (sEnd _ (.bad a e)) _=_
     rw[sEnd_bad]
     rfl
   | ok l c2 =>
     rw[h3] at h2
     obtain⟨h2,he2⟩:=h2
     unfold listS at h2
     simp only[Prod.mk.injEq] at h2
     obtain⟨h2a,h2b⟩:=h2
     show outR (sEnd (gloop clS (meas (wantS 3 [40] (.ok c1)).2+1) (wantS 3 [40] (.ok c1)).2 []).2 (wantS 0 [] (wantS 3 [41] (gloop clS (meas (wantS 3 [40] (.ok c1)).2+1) (wantS 3 [40] (.ok c1)).2 []).1).2).2) (rlnOf t.x (gloop clS (meas (wantS 3 [40] (.ok c1)).2+1) (wantS 3 [40] (.ok c1)).2 []).2)=_
     rw[h2a,h2b]
     obtain⟨u,r,rfl⟩:=he2.some
     by_cases ht:u.k=0
     ·have e1:tk 0 [] (u::r)=.ok u (u::r):=by simp [tk,ht]
      have e2:(wantS 0 [] (.ok (u::r))).2=.ok r:=by simp [wantS,wantT,headT,ht]
      rw[schT_ok ho h3 e1,e2]
      exact sEnd_ok t.x l r
     ·have e1:tk 0 [] (u::r)=.bad u.p 80:=by simp [tk,ht]
      have e2:(wantS 0 [] (.ok (u::r))).2=.bad u.p 80:=by simp [wantS,wantT,headT,ht]
      rw[schT_bad3 ho h3 e1,e2,sEnd_bad]
      rfl
structure RC (w0 w:World) (rb:Nat) (nm:List UInt8) (cv pv:Value) (cs:List Col) (ps:List Int):Prop where
 q:Blk w rb 25 #[.string ⟨nm.toArray⟩,cv]
 r:Blk w w0.heap.size 25 #[.string ⟨#[]⟩,.slice none 0 0]
 cols:ColsOwn w0.heap.size w cv cs
 pl:IntsO w0.heap.size w pv ps
 below:Below w0.heap.size w0 w
 ne:w0.heap.size<rb
section
variable {w0 w w' w1 : World} {rb : Nat} {nm : List UInt8} {cv pv : Value} {cs : List Col} {ps : List Int}
theorem RC.mt {Ts:List TypeId} (h:RC w0 w rb nm cv pv cs ps) (hm:MT w0.heap.size Ts w w') (h1:25 ∉ Ts) (h2:64 ∉ Ts) (h3:3 ∉ Ts):RC w0 w' rb nm cv pv cs ps :=
 ⟨h.q.mt hm h1,h.r.mt hm h1,hm.ownsRow h.cols h2,hm.ownsRow h.pl h3,h.below.trans (hm.below h.below.size),h.ne⟩
theorem RC.keep (h:RC w0 w rb nm cv pv cs ps) (hb:Below w.heap.size w w'):RC w0 w' rb nm cv pv cs ps:=h.mt (MT.ofBelow (Ts:=[]) hb) (by simp) (by simp) (by simp)
theorem RC.setCols {cv':Value} {cs':List Col} (h:RC w0 w rb nm cv pv cs ps) (hg:w.grownBy w1 cv.ownBlock) (hown:ColsOwn w0.heap.size w1 cv' cs') :
 RC w0 (w1.setCell ⟨rb,1,none⟩ cv') rb nm cv' pv cs' ps/\MT w0.heap.size [64,25] w (w1.setCell ⟨rb,1,none⟩ cv'):=by
 have m:MT w0.heap.size [64] w w1:=(MT.refl w).grown hg h.cols (by simp) (Nat.le_refl _)
 have q1:=h.q.mt m (by decide)
 have r1:=h.r.mt m (by decide)
 have ms:MT w0.heap.size [25] w1 (w1.setCell ⟨rb,1,none⟩ cv'):=MT.setCell (MT.refl w1) q1 (by simp) (Nat.le_of_lt h.ne) _
 have mm:MT w0.heap.size [64,25] w (w1.setCell ⟨rb,1,none⟩ cv'):=(m.wide (by simp)).trans (ms.wide (by simp))
 have hne:=h.ne
 refine⟨⟨?_,r1.far (p:=⟨rb,1,none⟩) (by simp;omega) _,ms.ownsRow hown (by decide),mm.ownsRow h.pl (by decide),h.below.trans (mm.below h.below.size),h.ne⟩,mm⟩
 simpa using q1.set_ 1 cv'
theorem RC.setPl {pv':Value} {ps':List Int} (h:RC w0 w rb nm cv pv cs ps) (hg:w.grownBy w1 pv.ownBlock) (hown:IntsO w0.heap.size w1 pv' ps') :
 RC w0 w1 rb nm cv pv' cs ps'/\MT w0.heap.size [3] w w1:=by
 have m:MT w0.heap.size [3] w w1:=(MT.refl w).grown hg h.pl (by simp) (Nat.le_refl _)
 exact⟨⟨h.q.mt m (by decide),h.r.mt m (by decide),m.ownsRow h.cols (by decide),hown,h.below.trans (m.below h.below.size),h.ne⟩,m⟩
end
def inS (l:List ClP) (h:ClP) (j:Nat) (s:LS):LS:=if h.1∈(l.take j).map (·.1) then failS h.2.2 82 s else s
theorem inS_zero (l:List ClP) (h:ClP) (s:LS):inS l h 0 s=s:=by
 unfold inS
 simp
theorem fail_twice (a e:Int) (s:LS):failS a e (failS a e s)=failS a e s:=by
 cases s<;>rfl
theorem inS_hit {l:List ClP} {h d:ClP} {j:Nat} (hd:l[j]? = some d) (he:h.1=d.1) (s:LS):inS l h (j+1) s=failS h.2.2 82 (inS l h j s):=by
 unfold inS
 rw[List.take_add_one,hd]
 simp only[Option.toList_some,List.map_append,List.map_cons,List.map_nil,List.mem_append,List.mem_singleton,he,or_true,if_true]
 split
 ·rw[fail_twice]
 ·rfl
theorem inS_miss {l:List ClP} {h d:ClP} {j:Nat} (hd:l[j]? = some d) (he:h.1≠d.1) (s:LS):inS l h (j+1) s=inS l h j s:=by
 unfold inS
 rw[List.take_add_one,hd]
 simp [he]
theorem twS_step (l:List ClP) (m k:Nat) {h:ClP} (hh:l[k]? = some h) (s:LS):twS l (m+1) k s=twS l m (k+1) (inS l h k s):=by
 rw[twS,hh]
 rfl
theorem many_some {l:List ClP} {c:ClP} (h:l[5]? = some c) (s:LS):manyS l s=failS c.2.2 81 s:=by
 unfold manyS
 rw[h]
theorem many_none {l:List ClP} (h:l[5]? = none) (s:LS):manyS l s=s:=by
 unfold manyS
 rw[h]
set_option maxHeartbeats 1000000 in
set_option maxRecDepth 100000 in
theorem refSch_ret {w0 W:World} {x y p q:Value} {T:Array Value} {Post:Ending->World->Prop} (h:Blk W w0.heap.size 25 #[x,y]) (h2:T[2]?.getD undef=.pointer (some ⟨w0.heap.size,0,none⟩)) (h3:T[3]?.getD undef=p) (h4:T[4]?.getD undef=q)
 (hP:Post (.returned (.tuple #[.agg #[x,y],p,q])) W):bodyPost Tryz.prog Tryz.f56 Post Exit.ret { tmps:=T,defers:=[] } W:=by
 have c0:=h.cell 0
 have c1:=h.cell 1
 simp only[List.getElem?_toArray,List.getElem?_cons_zero,List.getElem?_cons_succ] at c0 c1
 exact bodyPost_ret (v:=.tuple #[.agg #[x,y],p,q]) (by simp [results,Tryz.results56,go_sem,h2,h3,h4,c0,c1]) rfl hP
theorem chkC_mk {nm:List UInt8} {cs:List Col} (h1:isNameB nm=true) (h2:∀ c∈cs,isNameB c.x=true/\badK c=false) (h3:cs.length<=5) (h4:againI cs = -1):chkC nm cs=0:=by
 unfold chkC
 rw[if_neg (by rw[h1];decide),if_neg,if_neg (by omega),if_neg,if_neg (by rw[h4];decide)]
 ·have:cs.any badK=false:=List.any_eq_false.2 fun c hc=>by rw[(h2 c hc).2];decide
  rw[this]
  decide
 ·have:(cs.any fun c => !isNameB c.x)=false:=List.any_eq_false.2 fun c hc=>by rw[(h2 c hc).1];decide
  rw[this]
  decide
theorem sch_line (s:ByteArray) (w:World) (hs:s.size<=281474976710656) (hg:Glob w) (he:(lexR s.data.toList).e=0) :
 Calls Tryz.prog 23 #[.string s] w (SPost w (schT (lexR s.data.toList).ts)) :=
 sch_good s w _ fun W hb=>open_good s W hs (hg.below hb) he
theorem sch_fault (s:ByteArray) (w:World) (hs:s.size<=281474976710656) (hg:Glob w) (he:(lexR s.data.toList).e≠0) :
 Calls Tryz.prog 23 #[.string s] w (SPost w (.bad (lexR s.data.toList).at_ (lexR s.data.toList).e)) :=
 sch_bad s w _ _ fun W hb=>open_bad s W hs (hg.below hb) he
def TokOk (N:Nat) (t:Tok):Prop:=(t.k=1->isNameB t.x=true)/\0<=t.p/\t.p<=N
def TInv (N:Nat) (c:List Tok):Prop:=(∀ t∈c,TokOk N t)/\Ended c
theorem TInv.next {N:Nat} {t:Tok} {r:List Tok} (h:TInv N (t::r)) (hk:t.k≠0):TInv N r:=⟨fun u hu=>h.1 u (List.mem_cons_of_mem _ hu),h.2.cons hk⟩
section
variable {α : Type} {N : Nat}
def SureP (N:Nat) (Q:α->Prop):PR α->Prop
 | .bad a e=>0<=a/\a<=N/\e≠0
 | .ok x c=>Q x/\TInv N c
def Sure (N:Nat) (P:List Tok->PR α) (Q:α->Prop):Prop:=∀ c,TInv N c->SureP N Q (P c)
theorem tk_sure (N:Nat) (k:Int) (xs:List (List UInt8)):Sure N (tk k xs) (fun t=>TokOk N t/\t.k=k):=by
 intro c h
 cases c with
 | nil=>exact h.2.elim
 | cons t r =>
   have ht:=h.1 t List.mem_cons_self
   show SureP N _ (if t.k=k/\(xs=[]∨t.x∈xs) then .ok t (if k=0 then t::r else r) else .bad t.p 80)
   split
   ·rename_i hc
    refine⟨⟨ht,hc.1⟩,?_⟩
    split
    ·exact h
    ·rename_i hk
     exact h.next (by rw[hc.1];exact hk)
   ·exact⟨ht.2.1,ht.2.2,by decide⟩
theorem more_sure {P:List Tok->PR α} {Q:α->Prop} (hP:Sure N P Q):∀ f,Sure N (moreP P f) (fun xs=>∀ x∈xs,Q x)
 | 0,c,h=>⟨by simp,h⟩
 | f+1,c,h=>by
   unfold moreP
   split
   ·rename_i him
    have hd:TInv N (c.drop 1):=by
     obtain⟨t,r,rfl⟩:=h.2.some
     have hh:t.k=3/\t.x=[44]:=by simpa [isM] using him
     exact h.next (by rw[hh.1];decide)
    have h1:=hP (c.drop 1) hd
    cases ho:P (c.drop 1) with
    | bad a e=>rw[ho] at h1;exact h1
    | ok x c1 =>
      rw[ho] at h1
      have h2:=more_sure hP f c1 h1.2
      simp only
      cases hm:moreP P f c1 with
      | bad a e=>rw[hm] at h2;exact h2
      | ok xs c2 =>
        rw[hm] at h2
        refine⟨fun y hy=>?_,h2.2⟩
        rcases List.mem_cons.1 hy with rfl | hy
        ·exact h1.1
        ·exact h2.1 y hy
   ·exact⟨by simp,h⟩
theorem some_sure {P:List Tok->PR α} {Q:α->Prop} (hP:Sure N P Q):Sure N (someP P) (fun xs=>∀ x∈xs,Q x):=by
 intro c h
 have h1:=hP c h
 unfold someP
 cases ho:P c with
 | bad a e=>rw[ho] at h1;exact h1
 | ok x c1 =>
   rw[ho] at h1
   have h2:=more_sure hP c1.length c1 h1.2
   simp only
   cases hm:moreP P c1.length c1 with
   | bad a e=>rw[hm] at h2;exact h2
   | ok xs c2 =>
     rw[hm] at h2
     refine⟨fun y hy=>?_,h2.2⟩
     rcases List.mem_cons.1 hy with rfl | hy
     ·exact h1.1
     ·exact h2.1 y hy
theorem list_sure {P:List Tok->PR α} {Q:α->Prop} (hP:Sure N P Q):Sure N (listP P) (fun xs=>∀ x∈xs,Q x):=by
 intro c h
 have h1:=tk_sure N 3 [[40]] c h
 unfold listP
 cases ho:tk 3 [[40]] c with
 | bad a e=>rw[ho] at h1;exact h1
 | ok t c1 =>
   rw[ho] at h1
   simp only
   have h2:SureP N (fun xs=>∀ x∈xs,Q x) (if isM [41] c1=true then (.ok [] c1:PR (List α)) else someP P c1):=by
    split
    ·exact⟨by simp,h1.2⟩
    ·exact some_sure hP c1 h1.2
   cases hm:(if isM [41] c1=true then (.ok [] c1:PR (List α)) else someP P c1) with
   | bad a e=>rw[hm] at h2;exact h2
   | ok xs c2 =>
     rw[hm] at h2
     have h3:=tk_sure N 3 [[41]] c2 h2.2
     simp only
     cases hk:tk 3 [[41]] c2 with
     | bad a e=>rw[hk] at h3;exact h3
     | ok u c3=>rw[hk] at h3;exact⟨h2.1,h3.2⟩
end
theorem col_sure (N:Nat):Sure N colP (fun x=>isNameB x.1=true/\badK (clC x)=false/\0<=x.2.2/\x.2.2<=N):=by
 intro c h
 have h1:=tk_sure N 1 [] c h
 unfold colP
 cases ho:tk 1 [] c with
 | bad a e=>rw[ho] at h1;exact h1
 | ok t c1 =>
   rw[ho] at h1
   have h2:=tk_sure N 1 [[105,110,116],[116,101,120,116]] c1 h1.2
   simp only
   cases hm:tk 1 [[105,110,116],[116,101,120,116]] c1 with
   | bad a e=>rw[hm] at h2;exact h2
   | ok u c2 =>
     rw[hm] at h2
     refine⟨⟨h1.1.1.1 h1.1.2,?_,h1.1.1.2⟩,h2.2⟩
     simp only[clC,badK]
     split<;>decide
theorem schT_sure {N:Nat} {ts:List Tok} (h:TInv N ts):match schT ts with
 | .bad a e=>0<=a/\a<=N/\e≠0
 | .ok r _=>chkC r.name r.cols=0:=by
 have h1:=tk_sure N 1 [] ts h
 cases ho:tk 1 [] ts with
 | bad a e=>rw[ho] at h1;rw[schT_bad1 ho];exact h1
 | ok t c1 =>
   rw[ho] at h1
   have h2:=list_sure (col_sure N) c1 h1.2
   cases hl:listP colP c1 with
   | bad a e=>rw[hl] at h2;rw[schT_bad2 ho hl];exact h2
   | ok l c2 =>
     rw[hl] at h2
     have h3:=tk_sure N 0 [] c2 h2.2
     cases hk:tk 0 [] c2 with
     | bad a e=>rw[hk] at h3;rw[schT_bad3 ho hl hk];exact h3
     | ok u c3 =>
       rw[schT_ok ho hl hk]
       cases h5:l[5]? with
       | some c =>
         rw[chkS_many h5]
         have h8:=(h2.1 c (List.mem_of_getElem? h5)).2.2
         exact⟨h8.1,h8.2,by decide⟩
       | none =>
         rcases again_range (l.map clC) [] 0 with h6 | ⟨j,h6,_,h7⟩
         ·rw[chkS_ok h5 h6]
          refine chkC_mk (h1.1.1.1 h1.1.2) ?_ ?_ h6
          ·intro c hc
           obtain⟨z,hz,rfl⟩:=List.mem_map.1 hc
           have:=h2.1 z hz
           exact⟨this.1,this.2.1⟩
          ·simp only[rlnOf,List.length_map]
           have:=List.getElem?_eq_none_iff.1 h5
           exact this
         ·obtain⟨c,hc⟩:∃ c,l[j]? = some c:=⟨l[j]'(by simpa using h7),List.getElem?_eq_getElem (by simpa using h7)⟩
          rw[chkS_again h5 h6 hc]
          have h8:=(h2.1 c (List.mem_of_getElem? hc)).2.2
          exact⟨h8.1,h8.2,by decide⟩
theorem run_name {r:List UInt8} (hl:letB (bt r 0)=true) (hr:r≠[]) (h16:nameRun r<=16):isNameB (r.take (nameRun r))=true:=by
 have hp:=nameRun_pos hr hl
 have hle:=nameRun_le r
 have e:r.take (nameRun r)=r.takeWhile fun c=>letB c.toNat || digB c.toNat:=by
  have h1:=List.takeWhile_prefix (fun c:UInt8=>letB c.toNat || digB c.toNat) (l:=r)
  exact (List.prefix_iff_eq_take.1 h1).symm
 have hall:∀ c∈r.take (nameRun r),(letB c.toNat || digB c.toNat)=true:=by
  intro c hc
  rw[e] at hc
  exact List.all_eq_true.1 (List.all_takeWhile (p:=fun c:UInt8=>letB c.toNat || digB c.toNat) (l:=r)) c hc
 have hlen:(r.take (nameRun r)).length=nameRun r:=by rw[List.length_take];omega
 have hrun:nameRun (r.take (nameRun r))=(r.take (nameRun r)).length:=by
  have:=List.takeWhile_append_of_pos (p:=fun c:UInt8=>letB c.toNat || digB c.toNat) (l₁:=r.take (nameRun r)) (l₂:=[]) (by simpa using hall)
  rw[List.append_nil] at this
  show (List.takeWhile _ (r.take (nameRun r))).length=_
  rw[this]
  simp
 unfold isNameB
 simp only[decide_eq_true_eq]
 refine⟨?_,?_,hrun,by omega⟩
 ·intro e2
  rw[e2] at hlen
  simp at hlen
  omega
 ·have:=bt_take_app (l:=r) (y:=[]) (n:=nameRun r) (j:=0) (by omega) hle
  rw[List.append_nil] at this
  rw[this]
  exact hl
theorem LX_toks:∀ (m:Nat) (r:List UInt8) (p:Nat),r.length<=m->(LX r p).e=0->∀ t∈(LX r p).ts,(t.k=1->isNameB t.x=true)/\(p:Int)<=t.p/\t.p<=((p+r.length:Nat):Int):=by
 intro m
 have hend:∀ (r:List UInt8) (p:Nat),r=[]∨bt r 0=35->∀ t∈(LX r p).ts,(t.k=1->isNameB t.x=true)/\(p:Int)<=t.p/\t.p<=((p+r.length:Nat):Int):=by
  intro r p h t ht
  rw[LX_end h] at ht
  simp only[List.mem_singleton] at ht
  subst ht
  exact⟨fun h=>by simp [endTok] at h,by simp only[endTok];omega,by simp [endTok]⟩
 induction m with
 | zero =>
   intro r p h _
   exact hend r p (.inl (List.length_eq_zero_iff.1 (by omega)))
 | succ m ih =>
   intro r p h
   by_cases h0:r=[]∨bt r 0=35
   ·exact fun _=>hend r p h0
   ·have hr:r≠[]:=fun e=>h0 (.inl e)
    have hl:=List.length_pos_iff.2 hr
    by_cases hb:spB (bt r 0)=true
    ·rw[LX_blank h0 hb]
     intro he t ht
     have:=ih _ _ (by rw[List.length_drop];omega) he t ht
     rw[List.length_drop] at this
     exact⟨this.1,by omega,by omega⟩
    ·have hb':spB (bt r 0)=false:=by simpa using hb
     by_cases he:(oneS r p).2=0
     ·obtain⟨l1,_,l3⟩:=one_len he hr
      obtain⟨_,k2⟩:=one_kind he
      rw[LX_one h0 hb' he]
      split
      ·rename_i h9
       intro h8
       exact absurd h8 h9
      ·rename_i h9
       intro _ t ht
       simp only[List.mem_cons] at ht
       rcases ht with rfl | ht
       ·refine⟨fun hk=>?_,by rw[k2];exact Int.le_refl _,by rw[k2];omega⟩
        obtain⟨a1,a2,a3⟩:=one_name he hk
        rw[a3]
        exact run_name a1 hr a2
       ·have:=ih (r.drop (oneS r p).1.x.length) (p+(oneS r p).1.x.length) (by rw[List.length_drop];omega) (by simpa using h9) t ht
        rw[List.length_drop] at this
        exact⟨this.1,by omega,by omega⟩
     ·rw[LX_bad h0 hb' he]
      exact fun h=>absurd h he
theorem lex_toks {l:List UInt8} (h:(lexR l).e=0) (he:Ended (lexR l).ts):TInv l.length (lexR l).ts:=by
 by_cases hl:16384<l.length
 ·rw[lexR_long hl] at h
  exact absurd h (by decide)
 ·rw[lexR_short (by omega)] at h ⊢
  rw[lexR_short (by omega)] at he
  refine⟨fun t ht=>?_,he⟩
  have:=LX_toks _ l 0 (Nat.le_refl _) h t ht
  exact⟨this.1,by have:=this.2.1;omega,by have:=this.2.2;omega⟩
theorem lex_place (l:List UInt8) (h:(lexR l).e≠0):0<=(lexR l).at_/\(lexR l).at_<=l.length:=by
 by_cases hl:16384<l.length
 ·rw[lexR_long hl]
  exact⟨by simp,by simp⟩
 ·rw[lexR_short (by omega)] at h ⊢
  obtain⟨n,ts,h1,h2,_⟩:=LX_fault _ l 0 (Nat.le_refl _) h
  rw[h1]
  exact⟨by omega,by omega⟩
end Go.Proofs.YtamjadghncnbcaaGreatDoor
