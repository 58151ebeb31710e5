/- append of a whole row that can be read: no program in sight. osierref09.At, In, SameTexts, AtomVars, walked. osierref09.AtomVars, walked (turned from query.AtomVars). osierref09.Vars, walked. The stages of the document's Parse, plainly. Small plain facts for the walk of the document's Parse. What the document's Parse keeps in memory while it reads an atom's terms. -/
import Derived.Test.YtamjadghncnbcaaGreatDoorGbO
import Derived.Test.YtamjadghncnbcaaGreatDoorGcO
import Derived.Test.YtamjadghncnbcaaGreatDoorGfO
import Derived.Deep.AppendLies
import Derived.OwnWalk
import Derived.Deep.RegionHeld3
namespace Go.Proofs.YtamjadghncnbcaaGreatDoor
open Go.RowKit
set_option linter.unusedVariables false
variable {P : Program}
theorem list_eq_step {a b:List (List UInt8)} (hl:a.length=b.length) (h:∀ k,k<a.length->a[k]? = b[k]?):a=b:=by
 apply List.ext_getElem?
 intro k
 rcases Nat.lt_or_ge k a.length with h1 | h1
 ·exact h k h1
 ·rw[List.getElem?_eq_none h1,List.getElem?_eq_none (by omega)]
set_option maxHeartbeats 4000000 in
set_option maxRecDepth 100000 in
theorem sameTexts_any (w:World) (va vb:Value) (a b:List (List UInt8)) (ha:StrsAt w va a) (hb:StrsAt w vb b) :
 Calls Tryz.prog 93 #[va,vb] w fun e w'=>e=.returned (.bool (decide (a=b)))/\Below w.heap.size w w':=by
 obtain⟨aa,ac,rfl,hac,ham⟩:=ha.form
 obtain⟨ba,bc,rfl,hbc,hbm⟩:=hb.form
 have hla:=ha.len
 have hlb:=hb.len
 unfold maxLen at ham hbm
 have HA:=Lib.hid ha
 have HB:=Lib.hid hb
 clear ha hb
 by_cases hl:a.length=b.length
 ·generalize hna:a.length=n at *
  generalize hnb:b.length=m at *
  subst hl
  have HL:=Lib.hid hna
  have HN:=Lib.hid hnb
  clear hna hnb
  go_enter Tryz.func93,Tryz.ntmps93
  go_wp2_with fail
  go_loopw [5] (fun i wr=>∃ k:Nat,k<=n/\i=.int .i64 k/\Hid (Below w.heap.size w wr)/\Hid (∀ j,j<k->a[j]? = b[j]?)) (fun i _=>n - (intOf i).toNat)
  case atStart=>exact⟨0,Nat.zero_le _,rfl,Lib.hid (Below.refl _ _),Lib.hid (by simp)⟩
  case round =>
   obtain⟨k,hk,rfl,BW,HP⟩:=hrel
   by_cases hlt:k<n
   ·obtain⟨x,hx⟩:∃ x,a[k]? = some x:=⟨a[k]'(by rw[HL.out];exact hlt),List.getElem?_eq_getElem (by rw[HL.out];exact hlt)⟩
    obtain⟨y,hy⟩:∃ y,b[k]? = some y:=⟨b[k]'(by rw[HN.out];exact hlt),List.getElem?_eq_getElem (by rw[HN.out];exact hlt)⟩
    obtain⟨b1,o1,c1,hv1,_,_,hbl1,k1⟩:=(HA.out.keep BW.out).get hx
    obtain⟨b2,o2,c2,hv2,_,_,hbl2,k2⟩:=(HB.out.keep BW.out).get hy
    rw[HL.out] at hv1
    rw[HN.out] at hv2
    simp only[Value.slice.injEq,true_and] at hv1 hv2
    obtain⟨rfl,rfl⟩:=hv1
    obtain⟨rfl,rfl⟩:=hv2
    have hd:decide ((k:Int)<0)=false:=by simp
    have hd2:decide ((n:Int)<=(k:Int))=false:=by simp;omega
    have HX:=Lib.hid hx
    have HY:=Lib.hid hy
    clear hx hy
    by_cases hq:x=y
    ·subst hq
     go_wp2_with fail
     go_quiet (fail)
     go_wp2_with fail
     go_roundw
     case rel =>
      refine⟨k+1,by omega,by go_num,Lib.hid (bdrewN BW.out _),Lib.hid fun j hj=>?_⟩
      rcases Nat.lt_or_ge j k with h | h
      ·exact HP.out j h
      ·obtain rfl:j=k:=by omega
       rw[HX.out,HY.out]
     case measure=>simp [intOf];omega
    ·have hq2:¬ ((⟨x.toArray⟩:ByteArray)=⟨y.toArray⟩):=fun e=>hq (bytes_eq.1 e)
     have hq3:(x == y)=false:=by simpa using hq
     have hne:a≠b:=fun e=>hq (by have:=HX.out;rw[e,HY.out] at this;exact (Option.some.inj this).symm)
     have HNE:=Lib.hid hne
     clear hq hne
     go_wp2_with fail
     go_quiet (fail)
     go_wp2_with fail
     go_ret
     exact⟨by rw[decide_eq_false HNE.out];rfl,bdrewN BW.out _⟩
   ·obtain rfl:k=n:=by omega
    have heq:a=b:=list_eq_step (by rw[HL.out,HN.out]) (fun j hj=>HP.out j (by rw[HL.out] at hj;exact hj))
    have HEQ:=Lib.hid heq
    clear heq
    go_wp2_with fail
    go_ret
    exact⟨by rw[decide_eq_true HEQ.out];rfl,BW.out⟩
 ·have hne:a≠b:=fun e=>hl (by rw[e])
  rw[decide_eq_false hne]
  have hq:((a.length:Int) == (b.length:Int))=false:=by rw[beq_eq_false_iff_ne];omega
  have hq2:((a.length:Int) != (b.length:Int))=true:=by simp [bne,hq]
  clear hne
  go_enter Tryz.func93,Tryz.ntmps93
  go_wp2_with fail
  go_ret
  exact⟨rfl,Below.refl _ _⟩
theorem trm_one (ts:List Trm):∀ x∈ts.map Trm.cells,∀ u∈x,u.oneCell'=true:=by
 intro x hx u hu
 simp at hx
 obtain⟨t,_,rfl⟩:=hx
 simp only[Trm.cells,List.mem_cons,List.not_mem_nil,or_false] at hu
 rcases hu with rfl | rfl | rfl | rfl<;>rfl
def q4 (n:NmP) (hs:List NmP) (al:List AtP) (X:Tok × LS):PR Qry:=outS (endS n hs al X.2) (qryOf n hs al)
def q3 (n:NmP) (hs:List NmP) (G:LS × List AtP):PR Qry:=q4 n hs G.2 (wantS 0 [] G.1)
def q2d (n:NmP) (hs:List NmP) (X:Tok × LS):PR Qry:=q3 n hs (atomsS X.2)
def q2c (n:NmP) (hs:List NmP) (X:Tok × LS):PR Qry:=q2d n hs (wantS 3 [58,45] X.2)
def q2b (n:NmP) (G:LS × List NmP):PR Qry:=q2c n G.2 (wantS 3 [41] G.1)
def q2a (n:NmP) (X:Tok × LS):PR Qry:=q2b n (gloop nameS (meas X.2+1) X.2 [])
def q1 (X:Tok × LS):PR Qry:=q2a (X.1.x,X.1.p) (wantS 3 [40] X.2)
def NB (s:LS):Prop:=∀ a e,s=.bad a e->e≠0
theorem Good.nb {s:LS} (h:Good s):NB s:=by
 rintro a e rfl
 exact h
theorem blkNewS (w:World) (p:Addr) (u:Value) (t:TypeId) (cs:Array Value):Blk ((w.setCell p u).alloc (.cells cs t)) w.heap.size t cs:=by
 have:=Blk.new (w.setCell p u) t cs
 simpa using this
theorem more_le (n:Nat) (s:LS):meas (moreS n s).2<=meas s:=by
 cases s with
 | bad a e=>exact Nat.le_refl _
 | ok c =>
   rw[moreS_ok]
   split
   ·exact Nat.le_refl _
   ·split
    ·simp [meas]
    ·exact Nat.le_refl _
theorem gloop_meas {α:Type} {step:LS->α × LS} (hs:∀ s,meas (step s).2<=meas s):∀ (f:Nat) (s:LS) (ys:List α),meas (gloop step f s ys).1<=meas s
 | 0,s,ys=>Nat.le_refl _
 | f+1,s,ys=>by
   cases hc:(moreS ys.length s).1 with
   | false=>rw[gloop_end step (f+1) hc];exact Nat.le_refl _
   | true =>
     rw[gloop_go step f hc]
     have h1:=gloop_meas hs f (step (moreS ys.length s).2).2 (ys++[(step (moreS ys.length s).2).1])
     have h2:=hs (moreS ys.length s).2
     have h3:=more_le ys.length s
     omega
theorem termS_meas (s:LS):meas (termS s).2<=meas s:=by
 cases s with
 | bad a e=>exact Nat.le_refl _
 | ok c =>
   show meas (if (headT c).k=2 then _ else _:(Trm × Int) × LS).2<=_
   split
   ·exact want_meas 2 [] (.ok c)
   ·exact want_meas 1 [] (.ok c)
theorem listS_meas {α:Type} {step:LS->α × LS} (hs:∀ s,meas (step s).2<=meas s) (s:LS):meas (listS step s).2<=meas s:=by
 unfold listS
 have h1:=want_meas 3 [40] s
 have h2:=gloop_meas hs (meas (wantS 3 [40] s).2+1) (wantS 3 [40] s).2 []
 have h3:=want_meas 3 [41] (gloop step (meas (wantS 3 [40] s).2+1) (wantS 3 [40] s).2 []).1
 simp only
 omega
theorem atomS_meas (s:LS):meas (atomS s).2<=meas s:=by
 unfold atomS
 have h1:meas (nameS s).2<=meas s:=want_meas 1 [] s
 have h2:=listS_meas termS_meas (nameS s).2
 simp only
 omega
def lo (xs:List (Trm × Int)):List Int:=(xs[5]?.map (·.2)).toList
def ALp (s:LS) (al:List AtP) (G:LS × List AtP):Prop:=(al=[]/\atomsS s=G/\meas s<=100001)∨(al≠[]/\∃ f,meas s<=f/\al.length+f<=200000/\gloop atomS f s al=G)
theorem ALp.len {s:LS} {al:List AtP} {G:LS × List AtP} (h:ALp s al G):al.length<=200000:=by
 rcases h with ⟨rfl,_⟩ | ⟨_,f,_,h,_⟩
 ·simp
 ·omega
theorem ALp.first {s:LS} {al:List AtP} {G:LS × List AtP} (h:ALp s al G) (h0:al=[]):∃ f,meas (atomS s).2<=f/\al.length+1+f<=200000/\gloop atomS f (atomS s).2 (al++[(atomS s).1])=G:=by
 rcases h with ⟨rfl,h1,h2⟩ | ⟨h,_⟩
 ·exact⟨meas (atomS s).2,Nat.le_refl _,by have:=atomS_meas s;simp;omega,h1⟩
 ·exact absurd h0 h
theorem ALp.more {s:LS} {al:List AtP} {G:LS × List AtP} (h:ALp s al G) (h0:al≠[]) (hg:Good s) (hm:(moreS al.length s).1=true):∃ f,meas (atomS (moreS al.length s).2).2<=f/\al.length+1+f<=200000/\gloop atomS f (atomS (moreS al.length s).2).2 (al++[(atomS (moreS al.length s).2).1])=G:=by
 rcases h with ⟨h,_⟩ | ⟨_,f,h1,h2,h3⟩
 ·exact absurd h h0
 ·obtain⟨k1,k2,k3⟩:=more_meas hg hm
  have k4:=k3 (fun e=>h0 (List.eq_nil_of_length_eq_zero e))
  obtain⟨f,rfl⟩:∃ g,f=g+1:=⟨f - 1,by omega⟩
  rw[gloop_go atomS f hm] at h3
  have k5:=atomS_meas (moreS al.length s).2
  exact⟨f,by omega,by omega,h3⟩
theorem ALp.done {s:LS} {al:List AtP} {G:LS × List AtP} (h:ALp s al G) (h0:al≠[]) (hm:(moreS al.length s).1=false):G=(s,al):=by
 rcases h with ⟨h,_⟩ | ⟨_,f,h1,h2,h3⟩
 ·exact absurd h h0
 ·rw[gloop_end atomS f hm] at h3
  exact h3.symm
theorem ALp.next {s:LS} {al:List AtP} {G:LS × List AtP} {a:AtP} {f:Nat} (h1:meas s<=f) (h2:al.length+1+f<=200000) (h3:gloop atomS f s (al++[a])=G):ALp s (al++[a]) G :=
 .inr ⟨by simp,f,h1,by simp;omega,h3⟩
structure IN (w0 wb w:World) (b ab:Nat) (vt:Value) (s:LS) (rel:List UInt8) (jv:Value) (xs:List (Trm × Int)) (v1 v2 v3:Value) (l1 l2 l3:List Int):Prop where
 ln:Ln w b s vt
 mt:MT w0.heap.size [101,3] wb w
 ab:Blk w ab 67 #[.string ⟨rel.toArray⟩,jv]
 tr:w.ownsRow wb.heap.size 71 4 jv xs.length (xs.flatMap fun x=>x.1.cells)
 p3:P3 w0.heap.size w v1 v2 v3 l1 l2 l3
section
variable {w0 wb w w' w1 : World} {b ab : Nat} {vt : Value} {s s' : LS} {rel : List UInt8} {jv : Value} {xs : List (Trm × Int)} {v1 v2 v3 : Value} {l1 l2 l3 : List Int}
theorem IN.keep (h:IN w0 wb w b ab vt s rel jv xs v1 v2 v3 l1 l2 l3) (hb:Below w.heap.size w w'):IN w0 wb w' b ab vt s rel jv xs v1 v2 v3 l1 l2 l3 :=
 ⟨h.ln.keep hb,h.mt.plusBelow hb,h.ab.mt (MT.ofBelow (B:=0) (Ts:=[]) hb) (by simp),(MT.ofBelow (B:=0) (Ts:=[]) hb).ownsRow h.tr (by simp),h.p3.keep hb⟩
theorem IN.line (h:IN w0 wb w b ab vt s rel jv xs v1 v2 v3 l1 l2 l3) (hm:MT b [101] w w') (hl:Ln w' b s' vt) (hb:w0.heap.size<=b):IN w0 wb w' b ab vt s' rel jv xs v1 v2 v3 l1 l2 l3 :=
 ⟨hl,h.mt.trans (hm.mono (by simp) hb),h.ab.mt hm (by decide),hm.ownsRow h.tr (by decide),h.p3.mt hm (by decide)⟩
theorem IN.term {jv':Value} {x:Trm × Int} (h:IN w0 wb w b ab vt s rel jv xs v1 v2 v3 l1 l2 l3) (hg:w.grownBy w1 jv.ownBlock) (hab:wb.heap.size<=ab)
 (hown:w1.ownsRow wb.heap.size 71 4 jv' (xs.length+1) ((xs.flatMap fun x=>x.1.cells)++x.1.cells)):IN w0 wb (w1.setCell ⟨ab,1,none⟩ jv') b ab vt s rel jv' (xs++[x]) v1 v2 v3 l1 l2 l3:=by
 have m:MT wb.heap.size [71] w w1:=(MT.refl w).grown hg h.tr (by simp) (Nat.le_refl _)
 have a1:=h.ab.mt m (by decide)
 have ms:MT wb.heap.size [67] w1 (w1.setCell ⟨ab,1,none⟩ jv'):=MT.setCell (MT.refl w1) a1 (by simp) hab _
 have mm:MT wb.heap.size [71,67] w (w1.setCell ⟨ab,1,none⟩ jv'):=(m.wide (by simp)).trans (ms.wide (by simp))
 have m0:MT w0.heap.size [101,3] wb w1:=Mod.grown h.mt hg fun k hk hlt=>by
  have:=(h.tr.lt k hk).1
  omega
 refine⟨h.ln.mt mm (by decide) (by decide),m0.own (b:=ab) ((Mod.refl (fun k=>k=ab) w1).setCell (p:=⟨ab,1,none⟩) (fun _=>rfl) jv') hab,?_,?_,h.p3.mt mm (by decide)⟩
 ·simpa using a1.set_ 1 jv'
 ·have:=ms.ownsRow hown (by decide)
  simpa using this
theorem IN.over {g cap:Nat} {p:Int} (h:IN w0 wb w b ab vt s rel jv xs v1 v2 v3 l1 l2 l3) (hg:w.grownBy w1 v1.ownBlock)
 (hown:w1.ownsRow w0.heap.size 3 1 (.slice (some ⟨g,0,none⟩) (l1.length+1) cap) (l1.length+1) ((l1.map fun p=>.int .i64 p)++[.int .i64 p])) (hat:v1.ownBlock=some g∨g=w.heap.size) :
 IN w0 wb w1 b ab vt s rel jv xs (.slice (some ⟨g,0,none⟩) (l1.length+1) cap) v2 v3 (l1++[p]) l2 l3:=by
 have m:MT w0.heap.size [3] w w1:=(MT.refl w).grown hg h.p3.o1 (by simp) (Nat.le_refl _)
 exact⟨h.ln.mt m (by decide) (by decide),h.mt.trans (m.wide (by simp)),h.ab.mt m (by decide),m.ownsRow h.tr (by decide),h.p3.grow hg hown hat⟩
end
end Go.Proofs.YtamjadghncnbcaaGreatDoor
