/- osierlaw07.LexFaults, walked. -/
import Derived.Test.YtgopfpjinohncaaGreatDoorLxF
import Derived.Test.YtgopfpjinohncaaGreatDoorGcF
import Derived.Deep.DeepCutAuto
set_option maxHeartbeats 4000000
set_option maxRecDepth 100000
set_option linter.unusedVariables false
namespace Go.Proofs.YtgopfpjinohncaaGreatDoor
open Go.Proofs.Tryz
open Go.RowKit
theorem cR {l:List UInt8} (h:l.length<=16384):aN l=LX l 0:=by unfold aN;rw[if_neg (by omega)]
theorem gy {l:List UInt8} (h:16384<l.length):aN l=⟨[],0,70⟩:=by unfold aN;rw[if_pos h]
theorem vQ (g:Nat) (lb:Array Value) (eg:∀ args w,(callFunc g args).run prog w=.ok (.enter g args) w) (p:Nat->Bool) (w:World) (v:Value) (xs:List (List Value)) (h:aj w v 2 xs) (hl:∀ x∈xs,x.length=2)
 (hf:∀ (W:World) (k:Nat) (x:List Value),Below w.heap.size w W->xs[k]? = some x->Calls prog g (#[.agg x.toArray]++lb) W fun e W'=>e=.returned (.bool (p k))/\Below W.heap.size W W') :
 Calls prog 82 #[v,.func (.func g) #[] lb] w fun e w'=>(∃ q:Int,e=.returned (.int .i64 q)/\decide (0<=q)=(List.range xs.length).any p)/\Below w.heap.size w w':=by
 obtain⟨ad,cap,rfl,hnc,hcm⟩:=h.form
 have hln:=h.len
 have HR:=Fx h
 have HL:=Fx hl
 have HF:=Fx hf
 unfold maxLen at hcm
 generalize hn:xs.length=n at *
 have HN:=Fx hn
 clear h hl hf hn
 go_enter func82,ntmps82
 go_wp2_with fail
 go_loopw [5,8] (fun _ i wr=>∃ k:Nat,k<=n/\i=.int .i64 k/\Hid (Below w.heap.size w wr)/\Hid (∀ j,j<k->p j=false)) (fun _ i _=>n - (intOf i).toNat)
 case atStart=>exact⟨0,Fz,rfl,Fx Fy,Fx (fun j hj=>by omega)⟩
 case round =>
  obtain⟨k,hk,rfl,HB,HP⟩:=hrel
  by_cases hlt:k<n
  ·obtain⟨x,hx⟩:∃ x,xs[k]? = some x:=⟨xs[k]'(by rw[HN.out];exact hlt),FD (by rw[HN.out];exact hlt)⟩
   have hm:x∈xs:=FC hx
   obtain⟨b,off,cap',hv,_,_,hbl,hce⟩:=(HR.out.keep HB.out).get hx
   rw[HN.out] at hv
   simp only[Value.slice.injEq,true_and] at hv
   obtain⟨rfl,rfl⟩:=hv
   obtain⟨e0,e1,rfl⟩:=mw (HL.out x hm)
   have q0:=hce 0 e0 rfl
   have q1:=hce 1 e1 rfl
   simp only[Nat.add_zero] at q0 q1
   have hcall:=HF.out wr k _ HB.out hx
   clear hce hm hx
   cases hq:p k with
   | true =>
     rw[hq] at hcall
     have HC:=Fx hcall
     have HQ:=Fx hq
     clear hcall hq
     go_wp2_with fail
     refine HC.out.mono ?_
     rintro e w' ⟨rfl,hb'⟩
     have HB':=Fx hb'
     clear hb'
     go_wp2_with fail
     go_ret
     refine⟨⟨k,rfl,?_⟩,HB.out.trans (HB'.out.mono HB.out.size)⟩
     rw[decide_eq_true (Int.natCast_nonneg k)]
     exact (List.any_eq_true.2 ⟨k,List.mem_range.2 hlt,HQ.out⟩).symm
   | false =>
     rw[hq] at hcall
     have HC:=Fx hcall
     have HQ:=Fx hq
     clear hcall hq
     go_wp2_with fail
     refine HC.out.mono ?_
     rintro e w' ⟨rfl,hb'⟩
     have HB':=Fx hb'
     clear hb'
     go_wp2_with fail
     go_roundw
     case rel =>
      refine⟨k+1,by omega,by go_num,Fx (HB.out.trans (HB'.out.mono HB.out.size)),Fx (fun j hj=>?_)⟩
      rcases Nat.lt_or_ge j k with h1 | h1
      ·exact HP.out j h1
      ·obtain rfl:j=k:=by omega
       exact HQ.out
     case measure=>simp [intOf];omega
  ·obtain rfl:k=n:=by omega
   go_wp2_with fail
   go_ret
   refine⟨⟨-1,rfl,?_⟩,HB.out⟩
   rw[show decide ((0:Int) <= -1)=false from by decide]
   refine (List.any_eq_false.2 fun j hj=>?_).symm
   rw[HP.out j (List.mem_range.1 hj)]
   decide
theorem oQ (g:Nat) (lb:Array Value) (eg:∀ args w,(callFunc g args).run prog w=.ok (.enter g args) w) (p:Nat->Bool) (w:World) (v:Value) (xs:List (List Value)) (h:aj w v 2 xs) (hl:∀ x∈xs,x.length=2)
 (hf:∀ (W:World) (k:Nat) (x:List Value),Below w.heap.size w W->xs[k]? = some x->Calls prog g (#[.agg x.toArray]++lb) W fun e W'=>e=.returned (.bool (p k))/\Below W.heap.size W W') :
 Calls prog 80 #[v,.func (.func g) #[] lb] w fun e w'=>e=.returned (.bool ((List.range xs.length).any p))/\Below w.heap.size w w':=by
 have HI:=Fx (vQ g lb eg p w v xs h hl hf)
 clear h hl hf
 generalize (List.range xs.length).any p=R at *
 go_enter func80,ntmps80
 go_wp2_with fail
 refine HI.out.mono ?_
 rintro e w' ⟨⟨q,rfl,hq⟩,hb'⟩
 have HB':=Fx hb'
 clear hb'
 go_wp2_with fail
 go_ret
 exact⟨by first | rfl | simp,HB'.out⟩
theorem vT (g:Nat) (lb:Array Value) (eg:∀ args w,(callFunc g args).run prog w=.ok (.enter g args) w) (p:Nat->Bool) (w:World) (v:Value) (xs:List (List Value)) (h:aj w v 4 xs) (hl:∀ x∈xs,x.length=4)
 (hf:∀ (W:World) (k:Nat) (x:List Value),Below w.heap.size w W->xs[k]? = some x->Calls prog g (#[.agg x.toArray]++lb) W fun e W'=>e=.returned (.bool (p k))/\Below W.heap.size W W') :
 Calls prog 216 #[v,.func (.func g) #[] lb] w fun e w'=>(∃ q:Int,e=.returned (.int .i64 q)/\decide (0<=q)=(List.range xs.length).any p)/\Below w.heap.size w w':=by
 obtain⟨ad,cap,rfl,hnc,hcm⟩:=h.form
 have hln:=h.len
 have HR:=Fx h
 have HL:=Fx hl
 have HF:=Fx hf
 unfold maxLen at hcm
 generalize hn:xs.length=n at *
 have HN:=Fx hn
 clear h hl hf hn
 go_enter func216,ntmps216
 go_wp2_with fail
 go_loopw [5,8] (fun _ i wr=>∃ k:Nat,k<=n/\i=.int .i64 k/\Hid (Below w.heap.size w wr)/\Hid (∀ j,j<k->p j=false)) (fun _ i _=>n - (intOf i).toNat)
 case atStart=>exact⟨0,Fz,rfl,Fx Fy,Fx (fun j hj=>by omega)⟩
 case round =>
  obtain⟨k,hk,rfl,HB,HP⟩:=hrel
  by_cases hlt:k<n
  ·obtain⟨x,hx⟩:∃ x,xs[k]? = some x:=⟨xs[k]'(by rw[HN.out];exact hlt),FD (by rw[HN.out];exact hlt)⟩
   have hm:x∈xs:=FC hx
   obtain⟨b,off,cap',hv,_,_,hbl,hce⟩:=(HR.out.keep HB.out).get hx
   rw[HN.out] at hv
   simp only[Value.slice.injEq,true_and] at hv
   obtain⟨rfl,rfl⟩:=hv
   obtain⟨e0,e1,e2,e3,rfl⟩:=Fa (HL.out x hm)
   have q0:=hce 0 e0 rfl
   have q1:=hce 1 e1 rfl
   have q2:=hce 2 e2 rfl
   have q3:=hce 3 e3 rfl
   simp only[Nat.add_zero] at q0 q1 q2 q3
   have hcall:=HF.out wr k _ HB.out hx
   clear hce hm hx
   cases hq:p k with
   | true =>
     rw[hq] at hcall
     have HC:=Fx hcall
     have HQ:=Fx hq
     clear hcall hq
     go_wp2_with fail
     refine HC.out.mono ?_
     rintro e w' ⟨rfl,hb'⟩
     have HB':=Fx hb'
     clear hb'
     go_wp2_with fail
     go_ret
     refine⟨⟨k,rfl,?_⟩,HB.out.trans (HB'.out.mono HB.out.size)⟩
     rw[decide_eq_true (Int.natCast_nonneg k)]
     exact (List.any_eq_true.2 ⟨k,List.mem_range.2 hlt,HQ.out⟩).symm
   | false =>
     rw[hq] at hcall
     have HC:=Fx hcall
     have HQ:=Fx hq
     clear hcall hq
     go_wp2_with fail
     refine HC.out.mono ?_
     rintro e w' ⟨rfl,hb'⟩
     have HB':=Fx hb'
     clear hb'
     go_wp2_with fail
     go_roundw
     case rel =>
      refine⟨k+1,by omega,by go_num,Fx (HB.out.trans (HB'.out.mono HB.out.size)),Fx (fun j hj=>?_)⟩
      rcases Nat.lt_or_ge j k with h1 | h1
      ·exact HP.out j h1
      ·obtain rfl:j=k:=by omega
       exact HQ.out
     case measure=>simp [intOf];omega
  ·obtain rfl:k=n:=by omega
   go_wp2_with fail
   go_ret
   refine⟨⟨-1,rfl,?_⟩,HB.out⟩
   rw[show decide ((0:Int) <= -1)=false from by decide]
   refine (List.any_eq_false.2 fun j hj=>?_).symm
   rw[HP.out j (List.mem_range.1 hj)]
   decide
theorem oR (g:Nat) (lb:Array Value) (eg:∀ args w,(callFunc g args).run prog w=.ok (.enter g args) w) (p:Nat->Bool) (w:World) (v:Value) (xs:List (List Value)) (h:aj w v 4 xs) (hl:∀ x∈xs,x.length=4)
 (hf:∀ (W:World) (k:Nat) (x:List Value),Below w.heap.size w W->xs[k]? = some x->Calls prog g (#[.agg x.toArray]++lb) W fun e W'=>e=.returned (.bool (p k))/\Below W.heap.size W W') :
 Calls prog 168 #[v,.func (.func g) #[] lb] w fun e w'=>e=.returned (.bool ((List.range xs.length).any p))/\Below w.heap.size w w':=by
 have HI:=Fx (vT g lb eg p w v xs h hl hf)
 clear h hl hf
 generalize (List.range xs.length).any p=R at *
 go_enter func168,ntmps168
 go_wp2_with fail
 refine HI.out.mono ?_
 rintro e w' ⟨⟨q,rfl,hq⟩,hb'⟩
 have HB':=Fx hb'
 clear hb'
 go_wp2_with fail
 go_ret
 exact⟨by first | rfl | simp,HB'.out⟩
theorem sU (s:ByteArray) (w:World) (ts:List ak) (a e0:Int) (he:e0≠0)
 (ht:Calls prog 103 #[.string s] w fun x w'=>∃ ad cap,x=.returned (.tuple #[.slice ad ts.length cap,.int .i64 a,.int .i64 e0])/\w'.ownsRow w.heap.size 122 6 (.slice ad ts.length cap) ts.length (cO ts)/\Below w.heap.size w w') :
 Calls prog 54 #[.string s] w fun e w'=>e=.panicked [{ v:=aP a e0,recovered:=false }]/\Below w.heap.size w w':=by
 have HT:=Fx ht
 have q0:(e0 != 0)=true:=by simpa using he
 unfold aP
 clear he ht
 go_enter func54,ntmps54
 go_wp2_with fail
 refine HT.out.mono ?_
 rintro e w1 ⟨ad,cap,rfl,hown,hb⟩
 have HB:=Fx hb
 clear hown hb
 go_wp2_with fail
 exact⟨rfl,rfl,HB.out⟩
theorem qF (s:ByteArray) (w:World) (ts:List ak) (a e0:Int) (he:e0=0) (hen:bD ts) (hln:ts.length<=100000)
 (ht:Calls prog 103 #[.string s] w fun x w'=>∃ ad cap,x=.returned (.tuple #[.slice ad ts.length cap,.int .i64 a,.int .i64 e0])/\w'.ownsRow w.heap.size 122 6 (.slice ad ts.length cap) ts.length (cO ts)/\Below w.heap.size w w') :
 Calls prog 54 #[.string s] w fun e w'=>∃ r vt,e=.returned (.pointer (some ⟨r,0,none⟩))/\w.heap.size<=r/\Rs w' r ts vt/\Below w.heap.size w w':=by
 subst he
 have HT:=Fx ht
 have HE:=Fx hen
 clear ht hen
 go_enter func54,ntmps54
 go_wp2_with fail
 refine HT.out.mono ?_
 rintro e w1 ⟨ad,cap,rfl,hown,hb⟩
 have HB:=Fx hb
 have HO:=Fx hown
 have hz:=hb.size
 clear hown hb
 go_wp2_with fail
 go_ret
 refine⟨w1.heap.size,_,rfl,hz,⟨ts,0,⟨af.new _ _ _,?_,hln⟩,rfl,HE.out⟩,ae HB.out _⟩
 exact (World.ownsRow.alloc ⟨HO.out.1,(HO.out.2).imp id (fun⟨g,c,cur,h1,h2,h3⟩=>⟨g,c,cur,h1,Fz,h3⟩)⟩ _)
theorem zM:∀ (m:Nat) (r:List UInt8) (p:Nat),r.length<=m->(LX r p).e=0->bD (LX r p).ts/\(LX r p).ts.length<=r.length+1:=by
 intro m
 have hend:∀ (r:List UInt8) (p:Nat),r=[]∨bt r 0=35->bD (LX r p).ts/\(LX r p).ts.length<=r.length+1:=by
  intro r p h
  rw[eG h]
  exact⟨by simp [bD,aF],by simp⟩
 induction m with
 | zero =>
   intro r p h _
   exact hend r p (.inl (List.length_eq_zero_iff.1 (by omega)))
 | succ m ih =>
   intro r p h
   by_cases h0:r=[]∨bt r 0=35
   ·exact fun _=>hend r p h0
   ·have hr:r≠[]:=fun e=>h0 (.inl e)
    have hl:=List.length_pos_iff.2 hr
    by_cases hb:fZ (bt r 0)=true
    ·rw[dz h0 hb]
     intro he
     have:=ih _ _ (by rw[List.length_drop];omega) he
     rw[List.length_drop] at this
     exact⟨this.1,by omega⟩
    ·have hb':fZ (bt r 0)=false:=by simpa using hb
     by_cases he:(aA r p).2=0
     ·have h3:=(dB he hr).1
      have hk:=(j9 he).1
      have:=ih (r.drop (aA r p).1.x.length) (p+(aA r p).1.x.length) (by rw[List.length_drop];omega)
      rw[List.length_drop] at this
      rw[gE h0 hb' he]
      split
      ·intro h9
       exact absurd h9 (by assumption)
      ·rename_i h9
       intro _
       have h8:=this (by simpa using h9)
       refine⟨?_,by simp;omega⟩
       unfold bD
       rw[if_neg hk]
       exact h8.1
     ·rw[iC h0 hb' he]
      exact fun h=>absurd h he
theorem cw {l:List UInt8} (h:(aN l).e=0):bD (aN l).ts/\(aN l).ts.length<=100000:=by
 unfold aN at h ⊢
 by_cases hl:16384<l.length
 ·rw[if_pos hl] at h
  exact absurd h (by decide)
 ·rw[if_neg hl] at h ⊢
  have:=zM _ l 0 FA h
  exact⟨this.1,by omega⟩
theorem mP (s:ByteArray) (w:World) (hs:s.size<=281474976710656) (hg:bY w) (he:(aN s.data.toList).e≠0) :
 Calls prog 54 #[.string s] w fun e w'=>e=.panicked [{ v:=aP (aN s.data.toList).at_ (aN s.data.toList).e,recovered:=false }]/\Below w.heap.size w w' :=
 sU s w (aN s.data.toList).ts _ _ he (jy s w hs hg)
theorem iM (s:ByteArray) (w:World) (hs:s.size<=281474976710656) (hg:bY w) (he:(aN s.data.toList).e=0) :
 Calls prog 54 #[.string s] w fun e w'=>∃ r vt,e=.returned (.pointer (some ⟨r,0,none⟩))/\w.heap.size<=r/\Rs w' r (aN s.data.toList).ts vt/\Below w.heap.size w w' :=
 qF s w (aN s.data.toList).ts _ _ he (cw he).1 (cw he).2 (jy s w hs hg)
def gz (R:zC):LS:=if R.e=0 then .ok R.ts else .bad R.at_ R.e
