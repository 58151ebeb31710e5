/- Reading through a line's tokens, plainly. -/
import Derived.Test.YtgopfpjinohncaaGreatDoorShelfZF
set_option maxHeartbeats 8000000
set_option maxRecDepth 100000
set_option linter.unusedVariables false
namespace Go.Proofs.YtgopfpjinohncaaGreatDoor
open Go.Proofs.Tryz
open Go.RowKit
inductive PR (α:Type) where
 | bad (at_ e:Int)
 | ok (x:α) (ts:List ak)
def tk (k:Int) (xs:List (List UInt8)):List ak->PR ak
 | []=>.bad 0 0
 | t::r=>if t.k=k/\(xs=[]∨t.x∈xs) then .ok t (if k=0 then t::r else r) else .bad t.p 80
def cV (m:List UInt8):List ak->Bool
 | []=>false
 | t::_=>decide (t.k=3/\t.x=m)
def bq {α:Type} (one:List ak->PR α):Nat->List ak->PR (List α)
 | 0,ts=>.ok [] ts
 | f+1,ts =>
   if cV [44] ts=true then
    match one (ts.drop 1) with
    | .bad a e=>.bad a e
    | .ok x ts1 =>
      match bq one f ts1 with
      | .bad a e=>.bad a e
      | .ok xs ts2=>.ok (x::xs) ts2
   else .ok [] ts
def aQ {α:Type} (one:List ak->PR α) (ts:List ak):PR (List α) :=
 match one ts with
 | .bad a e=>.bad a e
 | .ok x ts1 =>
   match bq one ts1.length ts1 with
   | .bad a e=>.bad a e
   | .ok xs ts2=>.ok (x::xs) ts2
def aJ {α:Type} (one:List ak->PR α) (ts:List ak):PR (List α) :=
 match tk 3 [[40]] ts with
 | .bad a e=>.bad a e
 | .ok _ ts1 =>
   match (if cV [41] ts1=true then .ok [] ts1 else aQ one ts1) with
   | .bad a e=>.bad a e
   | .ok xs ts2 =>
     match tk 3 [[41]] ts2 with
     | .bad a e=>.bad a e
     | .ok _ ts3=>.ok xs ts3
def eo (ts:List ak):PR (List UInt8 × Int × Int) :=
 match tk 1 [] ts with
 | .bad a e=>.bad a e
 | .ok t ts1 =>
   match tk 1 [[105,110,116],[116,101,120,116]] ts1 with
   | .bad a e=>.bad a e
   | .ok u ts2=>.ok (t.x,if u.x=[116,101,120,116] then 2 else 1,t.p) ts2
def dp {α:Type} (one:List ak->PR α):Prop:=∀ (ts:List ak) (x:α) (ts':List ak),one ts=.ok x ts'->ts'.length<=ts.length
theorem cA (k:Int) (xs:List (List UInt8)):dp (tk k xs):=by
 intro ts x ts' h
 cases ts with
 | nil=>simp [tk] at h
 | cons t r =>
   by_cases hc:t.k=k/\(xs=[]∨t.x∈xs)
   ·simp only[tk,if_pos hc,PR.ok.injEq] at h
    obtain⟨_,rfl⟩:=h
    split<;>simp
   ·simp only[tk,if_neg hc] at h
    cases h
theorem uJ {α:Type} {one:List ak->PR α} (hl:dp one):∀ (f g:Nat) (ts:List ak),ts.length<=f->ts.length<=g->bq one f ts=bq one g ts:=by
 intro f
 induction f with
 | zero =>
   intro g ts h _
   have:ts=[]:=List.eq_nil_of_length_eq_zero (by omega)
   subst this
   cases g with
   | zero=>rfl
   | succ g=>simp [bq,cV]
 | succ f ih =>
   intro g ts h1 h2
   cases g with
   | zero =>
     have:ts=[]:=List.eq_nil_of_length_eq_zero (by omega)
     subst this
     simp [bq,cV]
   | succ g =>
     unfold bq
     by_cases hm:cV [44] ts=true
     ·rw[if_pos hm,if_pos hm]
      cases ho:one (ts.drop 1) with
      | bad a e=>rfl
      | ok x ts1 =>
        have h3:=hl _ _ _ ho
        have h4:(ts.drop 1).length=ts.length - 1:=List.length_drop ..
        have h5:0<ts.length:=by
         cases ts with
         | nil=>simp [cV] at hm
         | cons t r=>simp
        simp only
        rw[ih g ts1 (by omega) (by omega)]
     ·rw[if_neg hm,if_neg hm]
structure Rd (w:World) (r:Nat) (ts:List ak) (i:Nat) (vt:Value):Prop where
 blk:af w r 213 #[vt,.int .i64 i]
 row:w.ownsRow 0 122 6 vt ts.length (cO ts)
 len:ts.length<=100000
theorem Rd.keep {w w':World} {r:Nat} {ts:List ak} {i:Nat} {vt:Value} (h:Rd w r ts i vt) (hb:Below w.heap.size w w'):Rd w' r ts i vt :=
 have hm:aq (fun _=>False) w w':=aq.ofBelow hb
 ⟨h.blk.mod hm (fun f=>f),hm.ownsRow h.row (fun _ _ f=>f),h.len⟩
theorem Rd.at {w:World} {r:Nat} {ts:List ak} {i:Nat} {vt:Value} (h:Rd w r ts i vt) {j:Nat} {t:ak} (ht:ts[j]? = some t):∃ g cap,vt=.slice (some ⟨g,0,none⟩) ts.length cap/\ts.length<=cap/\cap<=maxLen/\g<w.heap.size /\
 w.cell? ⟨g,j * 6,none⟩=some (.int .i64 t.k)/\w.cell? ⟨g,j * 6+1,none⟩=some (.string ⟨t.x.toArray⟩)/\w.cell? ⟨g,j * 6+2,none⟩=some (.int .i64 t.vk)/\w.cell? ⟨g,j * 6+3,none⟩=some (.int .i64 t.vn)/\w.cell? ⟨g,j * 6+4,none⟩=some (.string ⟨t.vt.toArray⟩)/\w.cell? ⟨g,j * 6+5,none⟩=some (.int .i64 t.p):=by
 have hs:=h.row
 have hl:j<ts.length:=(FE ht).1
 have hln:=vK ts
 rcases hs.2 with ⟨_,h0⟩ | ⟨g,cap,cur,rfl,_,hg,hnc,hcm,_⟩
 ·omega
 ·obtain⟨h0,h1,h2,h3,h4,h5⟩:=xq ts j t ht
  exact⟨g,cap,rfl,hnc,hcm,(Array.getElem?_eq_some_iff.1 hg).1,(hs.cellAt _ (by omega)).trans h0,(hs.cellAt _ (by omega)).trans h1,(hs.cellAt _ (by omega)).trans h2,(hs.cellAt _ (by omega)).trans h3,(hs.cellAt _ (by omega)).trans h4,(hs.cellAt _ (by omega)).trans h5⟩
theorem mR (w:World) (r:Nat) (ts:List ak) (i:Nat) (vt:Value) (h:Rd w r ts i vt) (t:ak) (ht:ts[i]? = some t) :
 Calls prog 55 #[.pointer (some ⟨r,0,none⟩)] w fun e w'=>e=.returned t.v/\Below w.heap.size w w':=by
 obtain⟨g,cap,rfl,hnc,hcm,hg,k0,k1,k2,k3,k4,k5⟩:=h.at ht
 have hl:i<ts.length:=(FE ht).1
 have x0:=h.blk.cell 0
 have x1:=h.blk.cell 1
 simp at x0 x1
 have hr:=h.blk.lt
 have hlen:=h.len
 unfold maxLen at hcm
 have hd:decide ((i:Int)<0)=false:=by simp
 have hd2:decide ((ts.length:Int)<=(i:Int))=false:=by simp;omega
 have hd3:decide (ts.length<=i)=false:=by simp;omega
 unfold ak.v
 clear h ht
 go_enter func55,ntmps55
 go_wp2_with fail
 go_region
 all_goals
  go_wp2_with fail
  refine bodyPost_ret (v:=t.v) (by simp [results,results55,go_sem,ak.v]) rfl ⟨rfl,?_⟩
  exact ay (ae Fy _)
theorem DX (w:World) (r:Nat) (ts:List ak) (i:Nat) (vt:Value) (h:Rd w r ts i vt) (t:ak) (ht:ts[i]? = some t) (m:List UInt8) :
 Calls prog 146 #[.pointer (some ⟨r,0,none⟩),.string ⟨m.toArray⟩] w fun e w'=>e=.returned (.bool (decide (t.k=3/\t.x=m)))/\Below w.heap.size w w':=by
 have HP:=Fx (fun W (hW:Rd W r ts i vt)=>mR W r ts i vt hW t ht)
 have H:=Fx h
 clear h ht
 have hx:(t.x=m) ↔ ((⟨t.x.toArray⟩:ByteArray)=⟨m.toArray⟩):=by
  constructor
  ·rintro rfl;rfl
  ·intro e;simpa using e
 by_cases hk:t.k=3
 ·have q1:(t.k == 3)=true:=by simpa using hk
  by_cases hm:t.x=m
  ·subst hm
   have hres:decide (t.k=3/\t.x=t.x)=true:=by simp [hk]
   rw[hres]
   clear hx hres
   go_enter func146,ntmps146
   go_wp2_with fail
   refine (HP.out _ H.out).mono ?_
   rintro e w1 ⟨rfl,hb⟩
   have HB:=Fx hb
   clear hb
   unfold ak.v
   go_wp2_with fail
   go_ret
   exact⟨by simp,ae HB.out _⟩
  ·have hres:decide (t.k=3/\t.x=m)=false:=by simp [hm]
   have hne:¬ ((⟨t.x.toArray⟩:ByteArray)=⟨m.toArray⟩):=fun e=>hm (hx.2 e)
   rw[hres]
   clear hx hres
   go_enter func146,ntmps146
   go_wp2_with fail
   refine (HP.out _ H.out).mono ?_
   rintro e w1 ⟨rfl,hb⟩
   have HB:=Fx hb
   clear hb
   unfold ak.v
   go_wp2_with fail
   go_ret
   exact⟨by simp [hm],ae HB.out _⟩
 ·have q1:(t.k == 3)=false:=by simpa using hk
  have hres:decide (t.k=3/\t.x=m)=false:=by simp [hk]
  rw[hres]
  clear hx hres
  go_enter func146,ntmps146
  go_wp2_with fail
  refine (HP.out _ H.out).mono ?_
  rintro e w1 ⟨rfl,hb⟩
  have HB:=Fx hb
  clear hb
  unfold ak.v
  go_wp2_with fail
  go_ret
  exact⟨rfl,ae HB.out _⟩
def TX (w:World) (sv:Value) (l:List (List UInt8)):Prop :=
 l.length<=1000/\∃ (ad:Option Addr) (cap:Nat),sv=.slice ad l.length cap/\(l=[]∨∃ b off:Nat,ad=some ⟨b,off,none⟩/\b<w.heap.size/\∀ (j:Nat) (s:List UInt8),l[j]? = some s->w.cell? ⟨b,off+j,none⟩=some (.string ⟨s.toArray⟩))
def lY (kind:Int) (i:Nat):Nat:=if kind=0 then i else i+1
def fits (t:ak) (k:Int) (l:List (List UInt8)):Prop:=t.k=k/\(l=[]∨t.x∈l)
theorem gi {a b:List UInt8}:((⟨a.toArray⟩:ByteArray)=⟨b.toArray⟩) ↔ a=b:=by
 constructor
 ·intro e;simpa using e
 ·rintro rfl;rfl
def fO (t:ak) (k:Int) (l:List (List UInt8)) (j:Nat):Bool:=decide (t.k=k) && (l.isEmpty || (l.take j).contains t.x)
theorem jx (t:ak) (k:Int) (l:List (List UInt8)):fO t k l l.length=true ↔ fits t k l:=by
 unfold fO fits
 rw[List.take_length]
 simp [List.isEmpty_iff]
theorem mS {t:ak} {k:Int} {l:List (List UInt8)} {j:Nat} {s:List UInt8} (hj:l[j]? = some s):fO t k l (j+1)=(fO t k l j || (decide (t.k=k) && decide (t.x=s))):=by
 have hl:j<l.length:=(FE hj).1
 have hs:l[j]=s:=(FE hj).2
 unfold fO
 rw[List.take_add_one,hj]
 simp only[Option.toList_some,List.contains_append]
 cases decide (t.k=k)<;>simp [Bool.or_assoc]
theorem sZ (w:World) (r:Nat) (ts:List ak) (i:Nat) (vt:Value) (h:Rd w r ts i vt) (t:ak) (ht:ts[i]? = some t) (kind:Int) (l:List (List UInt8)) (sv:Value) (hx:TX w sv l) :
 Calls prog 57 #[.pointer (some ⟨r,0,none⟩),.int .i64 kind,sv] w fun e w' =>
  (fits t kind l/\e=.returned t.v/\Rd w' r ts (lY kind i) vt/\aq (fun k=>k=r) w w') ∨
  (¬ fits t kind l/\e=.panicked [{ v:=.iface 126 (.agg #[.int .i64 t.p,.int .i64 80]),recovered:=false }]/\Below w.heap.size w w'):=by
 have HP:=Fx (fun W (hW:Rd W r ts i vt)=>mR W r ts i vt hW t ht)
 have hil:i<ts.length:=(FE ht).1
 have hlen:=h.len
 have HX:=Fx hx
 obtain⟨hl1,ad,cap,rfl,htx⟩:=hx
 have HTX:=Fx htx
 have H:=Fx h
 have hr:=h.blk.lt
 clear h ht htx
 have hb0:Below w.heap.size w (w.alloc (.cells #[.int .i64 0,.string ⟨#[]⟩,.int .i64 0,.int .i64 0,.string ⟨#[]⟩,.int .i64 0] 122)):=ae Fy _
 have HB0:=Fx hb0
 clear hb0
 go_enter func57,ntmps57
 go_wp2_with fail
 refine (HP.out _ (H.out.keep HB0.out)).mono ?_
 rintro e w1 ⟨rfl,hb⟩
 have HB:=Fx (HB0.out.trans (hb.mono (by simp)))
 have hz1:=hb.size
 have z0:=(af.new w 122 #[.int .i64 0,.string ⟨#[]⟩,.int .i64 0,.int .i64 0,.string ⟨#[]⟩,.int .i64 0]).below hb (by simp)
 simp at hz1
 have hz2:w.heap.size<w1.heap.size:=by omega
 have Z0:=Fx z0
 clear hb z0 hz1
 have hg0:fO t kind l 0=(decide (t.k=kind) && decide (l.length=0)):=by
  unfold fO
  cases l<;>simp
 have HG0:=Fx hg0
 clear hg0
 obtain⟨W2,hW2⟩:∃ W2,W2=w1.alloc (.cells #[.int .i64 t.k,.string ⟨t.x.toArray⟩,.int .i64 t.vk,.int .i64 t.vn,.string ⟨t.vt.toArray⟩,.int .i64 t.p] 122):=⟨_,rfl⟩
 have hB2:Below w.heap.size w W2:=by rw[hW2];exact ae HB.out _
 have tb:af W2 w1.heap.size 122 #[.int .i64 t.k,.string ⟨t.x.toArray⟩,.int .i64 t.vk,.int .i64 t.vn,.string ⟨t.vt.toArray⟩,.int .i64 t.p]:=by rw[hW2];exact af.new _ _ _
 have zb:af W2 w.heap.size 122 #[.int .i64 0,.string ⟨#[]⟩,.int .i64 0,.int .i64 0,.string ⟨#[]⟩,.int .i64 0]:=by rw[hW2];exact Z0.out.alloc _
 have HB2:=Fx hB2
 have TB:=Fx tb
 have ZB:=Fx zb
 have t0:=tb.cell 0
 have t1:=tb.cell 1
 have t2:=tb.cell 2
 have t3:=tb.cell 3
 have t4:=tb.cell 4
 have t5:=tb.cell 5
 simp at t0 t1 t2 t3 t4 t5
 have HT:=Fx (show w1.heap.size<W2.heap.size from tb.lt)
 have HW2:=Fx hW2
 clear hB2 tb zb hW2
 unfold ak.v
 by_cases hk:t.k=kind
 ·have q1:(t.k == kind)=true:=by simpa using hk
  subst hk
  have rd2:=H.out.keep HB2.out
  have x1:=rd2.blk.cell 1
  have y1:=rd2.blk.frozen 1
  simp at x1
  have hr2:=rd2.blk.lt
  have hrz:r≠w.heap.size:=by omega
  have hrt:r≠w1.heap.size:=by omega
  have hzt:w.heap.size≠w1.heap.size:=by omega
  have RD2:=Fx rd2
  clear rd2
  have hcase:∀ Q:World->Prop,True:=fun _=>trivial
  clear hcase
  have hlz:decide (l.length=0)=true∨decide (l.length=0)=false:=by cases decide (l.length=0)<;>simp
  rcases hlz with hlz | hlz
  all_goals
   have hlz2:(((l.length:Nat):Int) == 0)=decide (l.length=0):=by
    by_cases h:l.length=0<;>simp [h]
   rw[hlz] at hlz2
   go_wp2_with fail
   rw[<-HW2.out]
   go_loopw [24,8] (fun ix gd wr=>∃ j:Nat,j<=l.length/\ix=.int .i64 j/\gd=.bool (fO t t.k l j)/\wr=W2) (fun ix _ _=>l.length - (intOf ix).toNat)
   case atStart=>exact⟨0,Fz,rfl,by rw[HG0.out,hlz];simp,rfl⟩
   case round =>
    obtain⟨j,hj,rfl,rfl,hwr⟩:=hrel
    subst hwr
    by_cases hlt:j<l.length
    ·obtain⟨s,hs⟩:∃ s,l[j]? = some s:=⟨l[j],FD hlt⟩
     have hstep:=mS (t:=t) (k:=t.k) hs
     rcases HTX.out with h0 | ⟨b,off,rfl,hb,hcs⟩
     ·subst h0;simp at hlt
     have cs:=(HB2.out.cell (p:=⟨b,off+j,none⟩) hb).trans (hcs j s hs)
     have HST:=Fx hstep
     clear hstep hcs hs
     cases hgd:fO t t.k l j with
     | true =>
       have HGD:=Fx hgd
       clear hgd
       go_wp2_with fail
       go_roundw
       case rel=>exact⟨j+1,by omega,by simp,by rw[HST.out,HGD.out];simp,trivial⟩
       case measure=>simp [intOf];omega
     | false =>
       have HGD:=Fx hgd
       clear hgd
       go_wp2_with fail
       go_roundw
       case rel=>exact⟨j+1,by omega,by simp,by rw[HST.out,HGD.out];by_cases he:t.x=s<;>simp [he],trivial⟩
       case measure=>simp [intOf];omega
    ·obtain rfl:j=l.length:=by omega
     cases hgd:fO t t.k l l.length with
     | false =>
       have hnf:¬ fits t t.k l:=fun hf=>by have:=(jx t t.k l).2 hf;rw[hgd] at this;cases this
       have HNF:=Fx hnf
       clear hgd hnf
       go_wp2_with fail
       exact⟨rfl,.inr ⟨HNF.out,rfl,HB2.out⟩⟩
     | true =>
       have HFI:=Fx ((jx t t.k l).1 hgd)
       clear hgd
       by_cases h0:t.k=0
       ·have q2:(t.k != 0)=false:=by simpa using h0
        have hni:lY t.k i=i:=by unfold lY;rw[if_pos h0]
        have HNI:=Fx hni
        clear h0 hni
        go_wp2_with (refine ar rfl 122 _ _ rfl w.heap.size 122 _ _ rfl rfl ZB.out (by kernel_rfl) rfl (by simp [Value.oneCell']) ?_)
        intro w2 hb2 hm2 hz2
        have r0:=hb2.cell 0
        have r1:=hb2.cell 1
        have r2:=hb2.cell 2
        have r3:=hb2.cell 3
        have r4:=hb2.cell 4
        have r5:=hb2.cell 5
        simp only[FF] at r0 r1 r2 r3 r4 r5
        have HF2:=Fx (aq.own HB2.out hm2 FA)
        clear hb2 hm2 hz2
        go_wp2_with fail
        refine bodyPost_ret (v:=t.v) (by simp [results,results57,go_sem,ak.v, *]) rfl (.inl ⟨HFI.out,rfl,by rw[HNI.out];exact H.out.keep HF2.out,aq.ofBelow HF2.out⟩)
       ·have q2:(t.k != 0)=true:=by simpa using h0
        have hni:lY t.k i=i+1:=by unfold lY;rw[if_neg h0]
        have HNI:=Fx hni
        clear h0 hni
        go_wp2_with (refine ar rfl 122 _ _ rfl w.heap.size 122 _ _ rfl rfl (ZB.out.far (p:=⟨r,1,none⟩) (fun e=>hrz e.symm) _) (by kernel_rfl) rfl (by simp [Value.oneCell']) ?_)
        intro w2 hb2 hm2 hz2
        have r0:=hb2.cell 0
        have r1:=hb2.cell 1
        have r2:=hb2.cell 2
        have r3:=hb2.cell 3
        have r4:=hb2.cell 4
        have r5:=hb2.cell 5
        simp only[FF] at r0 r1 r2 r3 r4 r5
        have hMA:aq (fun k=>k=r) w w2:=((aq.ofBelow (F:=fun k=>k=r) HB2.out).setCell (p:=⟨r,1,none⟩) (fun _=>rfl) (.int .i64 ((i:Int)+1))).trans hm2 (fun k hk e=>by omega)
        have hbl:=(RD2.out.blk.set_ 1 (.int .i64 ((i:Int)+1))).mod hm2 hrz
        have hne:=aE H.out.row H.out.blk (by decide)
        have hrd:Rd w2 r ts (i+1) vt:=⟨by simpa using hbl,hMA.ownsRow H.out.row (fun k hk e=>hne (by rw[hk,e])),H.out.len⟩
        have HRD:=Fx hrd
        have HMA:=Fx hMA
        clear hb2 hm2 hz2 hMA hbl hne hrd
        go_wp2_with fail
        refine bodyPost_ret (v:=t.v) (by simp [results,results57,go_sem,ak.v, *]) rfl (.inl ⟨HFI.out,rfl,by rw[HNI.out];exact HRD.out,HMA.out⟩)
 ·have q1:(t.k == kind)=false:=by simpa using hk
  go_wp2_with fail
  rw[<-HW2.out]
  go_loopw [24,8] (fun ix gd wr=>∃ j:Nat,j<=l.length/\ix=.int .i64 j/\gd=.bool (fO t kind l j)/\wr=W2) (fun ix _ _=>l.length - (intOf ix).toNat)
  case atStart=>exact⟨0,Fz,rfl,by rw[HG0.out];simp [hk],rfl⟩
  case round =>
   obtain⟨j,hj,rfl,rfl,hwr⟩:=hrel
   subst hwr
   by_cases hlt:j<l.length
   ·obtain⟨s,hs⟩:∃ s,l[j]? = some s:=⟨l[j],FD hlt⟩
    have hstep:=mS (t:=t) (k:=kind) hs
    rcases HTX.out with h0 | ⟨b,off,rfl,hb,hcs⟩
    ·subst h0;simp at hlt
    have cs:=(HB2.out.cell (p:=⟨b,off+j,none⟩) hb).trans (hcs j s hs)
    have HST:=Fx hstep
    clear hstep hcs hs
    cases hgd:fO t kind l j with
    | true =>
      have HGD:=Fx hgd
      clear hgd
      go_wp2_with fail
      go_roundw
      case rel=>exact⟨j+1,by omega,by simp,by rw[HST.out,HGD.out];simp,trivial⟩
      case measure=>simp [intOf];omega
    | false =>
      have HGD:=Fx hgd
      clear hgd
      go_wp2_with fail
      go_roundw
      case rel=>exact⟨j+1,by omega,by simp,by rw[HST.out,HGD.out];simp [hk],trivial⟩
      case measure=>simp [intOf];omega
   ·obtain rfl:j=l.length:=by omega
    have hgf:fO t kind l l.length=false:=by
     cases hgd:fO t kind l l.length with
     | false=>rfl
     | true=>exact absurd ((jx t kind l).1 hgd).1 hk
    rw[hgf]
    have hnf:¬ fits t kind l:=fun hf=>hk hf.1
    have HNF:=Fx hnf
    clear hgf hnf
    go_wp2_with fail
    exact⟨rfl,.inr ⟨HNF.out,rfl,HB2.out⟩⟩
theorem BY (w:World) (r:Nat) (ts:List ak) (i:Nat) (vt:Value) (h:Rd w r ts i vt) (t:ak) (ht:ts[i]? = some t) (m:List UInt8) :
 Calls prog 133 #[.pointer (some ⟨r,0,none⟩),.string ⟨m.toArray⟩] w fun e w' =>
  (fits t 3 [m]/\e=.returned t.v/\Rd w' r ts (i+1) vt/\aq (fun k=>k=r) w w') ∨
  (¬ fits t 3 [m]/\e=.panicked [{ v:=.iface 126 (.agg #[.int .i64 t.p,.int .i64 80]),recovered:=false }]/\Below w.heap.size w w'):=by
 have hr:=h.blk.lt
 have hb0:Below w.heap.size w ((w.alloc (.cells #[.int .i64 0,.string ⟨#[]⟩,.int .i64 0,.int .i64 0,.string ⟨#[]⟩,.int .i64 0] 122)).alloc (.cells #[.string ⟨m.toArray⟩] 9)):=ae (ae Fy _) _
 have hx:TX ((w.alloc (.cells #[.int .i64 0,.string ⟨#[]⟩,.int .i64 0,.int .i64 0,.string ⟨#[]⟩,.int .i64 0] 122)).alloc (.cells #[.string ⟨m.toArray⟩] 9)) (.slice (some ⟨w.heap.size+1,0,none⟩) 1 1) [m]:=by
  refine⟨by simp,some ⟨w.heap.size+1,0,none⟩,1,rfl,.inr ⟨w.heap.size+1,0,rfl,by simp,?_⟩⟩
  intro j s hj
  match j with
  | 0=>simp at hj;subst hj;simp
  | j+1=>simp at hj
 have zb:=(af.new w 122 #[.int .i64 0,.string ⟨#[]⟩,.int .i64 0,.int .i64 0,.string ⟨#[]⟩,.int .i64 0]).alloc (.cells #[.string ⟨m.toArray⟩] 9)
 have HTK:=Fx (sZ _ r ts i vt (h.keep hb0) t ht 3 [m] _ hx)
 have ZB:=Fx zb
 have HB0:=Fx hb0
 have hni:lY 3 i=i+1:=rfl
 have HNI:=Fx hni
 have hrz:w.heap.size≠r:=by omega
 have hrw:∀ k,vt.ownBlock=some k->k<w.heap.size:=fun k hk=>(h.row.lt k hk).2
 clear h hx hb0 ht hni zb
 go_enter func133,ntmps133
 go_wp2_with fail
 refine HTK.out.mono ?_
 rintro e w1 (⟨hf,rfl,hrd,hm⟩ | ⟨hf,rfl,hb⟩)
 ·have HF:=Fx hf
  have HRD:=Fx hrd
  have HM:=Fx hm
  have zb1:=ZB.out.mod hm (by simpa using hrz)
  have ZB1:=Fx zb1
  have hz:=hm.size
  simp at hz
  clear hf hrd hm zb1
  unfold ak.v
  go_wp2_with (refine ar rfl 122 _ _ rfl w.heap.size 122 _ _ rfl rfl ZB1.out (by kernel_rfl) rfl (by simp [Value.oneCell']) ?_)
  intro w2 hb2 hm2 hz2
  have r0:=hb2.cell 0
  have r1:=hb2.cell 1
  have r2:=hb2.cell 2
  have r3:=hb2.cell 3
  have r4:=hb2.cell 4
  have r5:=hb2.cell 5
  simp only[FF] at r0 r1 r2 r3 r4 r5
  have hMA:aq (fun k=>k=r) w w2:=((aq.ofBelow (F:=fun k=>k=r) HB0.out).trans HM.out (fun k hk e=>e)).trans hm2 (fun k hk e=>by omega)
  have hrd2:Rd w2 r ts (i+1) vt:=by
   have h1:=HRD.out
   rw[HNI.out] at h1
   exact⟨h1.blk.mod hm2 (fun e=>hrz e.symm),hm2.ownsRow h1.row (fun k hk e=>by have:=hrw k hk;omega),h1.len⟩
  have HMA:=Fx hMA
  have HRD2:=Fx hrd2
  clear hb2 hm2 hz2 hMA hrd2
  go_wp2_with fail
  refine bodyPost_ret (v:=t.v) (by simp [results,results133,go_sem,ak.v, *]) rfl (.inl ⟨HF.out,rfl,HRD2.out,HMA.out⟩)
 ·have HF:=Fx hf
  have HB:=Fx hb
  clear hf hb
  go_wp2_with fail
  exact⟨rfl,.inr ⟨HF.out,rfl,HB0.out.trans (HB.out.mono (by simp;omega))⟩⟩
def aP (at_ e:Int):Value:=.iface 126 (.agg #[.int .i64 at_,.int .i64 e])
theorem gD (p q:Addr) (w:World):Calls prog 53 #[.nilIface,.pointer (some p),.pointer (some q)] w fun e w'=>e=.returned (.bool false)/\w'=w:=by
 go_enter func53,ntmps53
 go_wp2_with fail
 go_ret
 exact⟨rfl,rfl⟩
theorem rr (W:World) (v:Value):(Instr.typeAssert (.iface 126 v) 20 126 true).run prog W=.ok (.tuple #[v,.bool true]) W:=by kernel_rfl
theorem eL (a e:Int) (g h:Nat) (x y:Value) (w:World) (hg:w.cell? ⟨g,0,none⟩=some x) (hh:w.cell? ⟨h,0,none⟩=some y) (fg:w.frozen? ⟨g,0,none⟩=false) (fh:w.frozen? ⟨h,0,none⟩=false) (hne:g≠h) :
 Calls prog 53 #[aP a e,.pointer (some ⟨g,0,none⟩),.pointer (some ⟨h,0,none⟩)] w fun x w'=>x=.returned (.bool true)/\w'=(((w.setCell ⟨g,0,none⟩ (.int .i64 a)).setCell ⟨h,0,none⟩ (.int .i64 e)).alloc (.cells #[.int .i64 a,.int .i64 e] 126)).drew:=by
 unfold aP
 have hta:=rr
 have hgl:=World.block_lt_of_cell? w _ hg
 have hhl:=World.block_lt_of_cell? w _ hh
 simp at hgl hhl
 have hne2:h≠g:=fun e=>hne e.symm
 go_enter func53,ntmps53
 go_wp2_with fail
 go_region
 all_goals
  go_wp2_with fail
  go_ret
  exact⟨rfl,rfl⟩
def DO (w:World) (Ts:List TypeId) (k:Nat):Prop:=∃ cs t fr,w.heap[k]? = some (.cells cs t fr)/\t∈Ts
def MT (B:Nat) (Ts:List TypeId) (w w':World):Prop:=aq (fun k=>B<=k/\DO w Ts k) w w'
section
variable {B B' : Nat} {Ts Ts' : List TypeId} {a b c w w' : World}
theorem MT.refl (w:World):MT B Ts w w:=aq.refl _ w
theorem MT.trans (h:MT B Ts a b) (k:MT B Ts b c):MT B Ts a c :=
 ⟨k.os.trans h.os,k.tape.trans h.tape,k.output.trans h.output,Nat.le_trans h.size k.size,fun i hi hn=>by
  have e:=h.block i hi hn
  refine (k.block i (Nat.lt_of_lt_of_le hi h.size) fun hk=>hn ⟨hk.1,?_⟩).trans e
  obtain⟨_,cs,t,fr,h1,h2⟩:=hk
  exact⟨cs,t,fr,e.symm.trans h1,h2⟩⟩
theorem MT.mono (h:MT B Ts a b) (hs:∀ t∈Ts,t∈Ts') (hB:B'<=B):MT B' Ts' a b :=
 aq.mono h fun _ _ ⟨h1,cs,t,fr,h2,h3⟩=>⟨Nat.le_trans hB h1,cs,t,fr,h2,hs t h3⟩
theorem MT.wide (h:MT B Ts a b) (hs:∀ t∈Ts,t∈Ts'):MT B Ts' a b:=h.mono hs FA
theorem MT.ofBelow (h:Below w.heap.size w w'):MT B Ts w w':=aq.ofBelow h
theorem MT.below (h:MT B Ts w w') (hB:B<=w.heap.size):Below B w w':=aq.below h hB (fun _ h=>h.1)
theorem MT.size (h:MT B Ts w w'):w.heap.size<=w'.heap.size:=aq.size h
theorem MT.drew (h:MT B Ts a w):MT B Ts a w.drew:=aq.drew h
theorem MT.alloc (h:MT B Ts a w) (o:Obj):MT B Ts a (w.alloc o):=aq.alloc h o
theorem MT.plusBelow (h:MT B Ts a w) (k:Below w.heap.size w w'):MT B Ts a w':=h.trans (MT.ofBelow k)
theorem af.mt {g:Nat} {t:TypeId} {cs:Array Value} (h:af w g t cs) (hm:MT B Ts w w') (ht:t ∉ Ts):af w' g t cs :=
 af.mod h hm fun⟨_,cs',t',fr,h1,h2⟩=>by
  unfold af at h
  rw[h] at h1
  injection h1 with h1
  injection h1 with _ e _
  exact ht (e ▸ h2)
theorem MT.ownsRow (hm:MT B Ts w w') {base:Nat} {e:TypeId} {size:Nat} {v:Value} {n:Nat} {xs:List Value} (ho:w.ownsRow base e size v n xs) (he:e ∉ Ts):w'.ownsRow base e size v n xs:=by
 refine⟨ho.1,?_⟩
 rcases ho.2 with h2 | ⟨g,cap,cur,rfl,hb,hg,rest⟩
 ·exact .inl h2
 ·exact .inr ⟨g,cap,cur,rfl,hb,af.mt (show af w g e cur from hg) hm he,rest⟩
theorem MT.ofMod {r:Nat} {t:TypeId} {cs:Array Value} (hm:aq (fun k=>k=r) w w') (hb:af w r t cs) (ht:t∈Ts) (hB:B<=r):MT B Ts w w' :=
 aq.mono hm fun k _ e=>by subst e;exact⟨hB,cs,t,(0,0),hb,ht⟩
theorem MT.setCell {g i:Nat} {t:TypeId} {cs:Array Value} (h:MT B Ts a w) (hb:af w g t cs) (ht:t∈Ts) (hB:B<=g) (u:Value):MT B Ts a (w.setCell ⟨g,i,none⟩ u) :=
 h.trans (MT.ofMod ((aq.refl (fun k=>k=g) w).setCell (p:=⟨g,i,none⟩) (fun _=>rfl) u) hb ht hB)
theorem MT.grown {base:Nat} {e:TypeId} {size:Nat} {v:Value} {n:Nat} {xs:List Value} (h:MT B Ts a w) (hg:w.grownBy w' v.ownBlock) (ho:w.ownsRow base e size v n xs) (he:e∈Ts) (hB:B<=base):MT B Ts a w':=by
 refine h.trans ?_
 refine⟨hg.os,hg.tape,hg.output,hg.size,fun i hi hn=>hg.block i hi fun e'=>?_⟩
 rcases ho.2 with ⟨rfl,_⟩ | ⟨g,cap,cur,rfl,hb,hh,_⟩
 ·simp [Value.ownBlock] at e'
 ·simp [Value.ownBlock] at e'
  subst e'
  exact hn ⟨Nat.le_trans hB hb,cur,_,(0,0),hh,he⟩
theorem MT.own {b:Nat} (h:MT B Ts a w) (hm:aq (fun k=>k=b) w w') (hb:a.heap.size<=b):MT B Ts a w' :=
 aq.trans h hm fun i hi e=>by omega
end
def bD:List ak->Prop
 | []=>False
 | t::r=>if t.k=0 then r=[] else bD r
theorem bD.cons {t:ak} {r:List ak} (h:bD (t::r)) (hk:t.k≠0):bD r:=by
 unfold bD at h
 rwa [if_neg hk] at h
theorem bD.some {c:List ak} (h:bD c):∃ t r,c=t::r:=by
 cases c with
 | nil=>exact h.elim
 | cons t r=>exact⟨t,r,rfl⟩
def Rs (w:World) (r:Nat) (c:List ak) (vt:Value):Prop:=∃ ts i,Rd w r ts i vt/\ts.drop i=c/\bD c
section
variable {w w' : World} {r : Nat} {c : List ak} {vt : Value}
theorem Rs.keep (h:Rs w r c vt) (hb:Below w.heap.size w w'):Rs w' r c vt:=by
 obtain⟨ts,i,h1,h2,h3⟩:=h
 exact⟨ts,i,h1.keep hb,h2,h3⟩
theorem Rs.mt {B:Nat} {Ts:List TypeId} (h:Rs w r c vt) (hm:MT B Ts w w') (h1:213 ∉ Ts) (h2:122 ∉ Ts):Rs w' r c vt:=by
 obtain⟨ts,i,hr,h3,h4⟩:=h
 exact⟨ts,i,⟨hr.blk.mt hm h1,hm.ownsRow hr.row h2,hr.len⟩,h3,h4⟩
theorem Rs.ended (h:Rs w r c vt):bD c:=by
 obtain⟨_,_,_,_,h⟩:=h
 exact h
theorem Rs.blk (h:Rs w r c vt):∃ cs,af w r 213 cs:=by
 obtain⟨_,_,h,_⟩:=h
 exact⟨_,h.blk⟩
theorem Rs.lt (h:Rs w r c vt):r<w.heap.size:=by
 obtain⟨_,h⟩:=h.blk
 exact h.lt
theorem Rs.len (h:Rs w r c vt):c.length<=100000:=by
 obtain⟨ts,i,h1,h2,_⟩:=h
 have:=h1.len
 rw[<-h2,List.length_drop]
 omega
end
def aX {α:Type} (R:α->List ak->Value->World->Prop) (B:Nat) (Ts:List TypeId) (w:World):PR α->Ending->World->Prop
 | .bad a f,e,w'=>e=.panicked [{ v:=aP a f,recovered:=false }]/\MT B Ts w w'
 | .ok x c,e,w'=>∃ v,e=.returned v/\R x c v w'/\MT B Ts w w'
theorem qu {w:World} {r:Nat} {t:ak} {c:List ak} {vt:Value} (h:Rs w r (t::c) vt) :
 Calls prog 55 #[.pointer (some ⟨r,0,none⟩)] w fun e w'=>e=.returned t.v/\Below w.heap.size w w':=by
 obtain⟨ts,i,h1,h2,_⟩:=h
 refine mR w r ts i vt h1 t ?_
 have:=congrArg (·[0]?) h2
 simpa using this
theorem dh {w:World} {r:Nat} {c:List ak} {vt:Value} (h:Rs w r c vt) (m:List UInt8) :
 Calls prog 146 #[.pointer (some ⟨r,0,none⟩),.string ⟨m.toArray⟩] w fun e w'=>e=.returned (.bool (cV m c))/\Below w.heap.size w w':=by
 obtain⟨ts,i,h1,h2,h3⟩:=h
 obtain⟨t,c',rfl⟩:=h3.some
 refine DX w r ts i vt h1 t ?_ m
 have:=congrArg (·[0]?) h2
 simpa using this
theorem kh {ts:List ak} {i:Nat} {t:ak} {c:List ak} (h:ts.drop i=t::c):ts.drop (i+1)=c:=by
 rw[<-List.drop_drop,h]
 rfl
theorem cN {w:World} {r:Nat} {c:List ak} {vt:Value} {B:Nat} {Ts:List TypeId} (h:Rs w r c vt) (kind:Int) (l:List (List UInt8)) (sv:Value) (hx:TX w sv l) (hB:B<=r) (hT:213∈Ts) :
 Calls prog 57 #[.pointer (some ⟨r,0,none⟩),.int .i64 kind,sv] w
  (aX (fun t c' v w'=>v=t.v/\Rs w' r c' vt) B Ts w (tk kind l c)):=by
 obtain⟨ts,i,h1,h2,h3⟩:=h
 obtain⟨t,c',rfl⟩:=h3.some
 have ht:ts[i]? = some t:=by
  have:=congrArg (·[0]?) h2
  simpa using this
 refine (sZ w r ts i vt h1 t ht kind l sv hx).mono ?_
 rintro e w' (⟨hf,rfl,hr,hm⟩ | ⟨hf,rfl,hb⟩)
 ·have hk:tk kind l (t::c')=.ok t (if kind=0 then t::c' else c'):=by
   unfold tk
   exact if_pos hf
  rw[hk]
  refine⟨_,rfl,⟨rfl,ts,lY kind i,hr,?_,?_⟩,MT.ofMod hm h1.blk hT hB⟩
  ·unfold lY
   split
   ·exact h2
   ·exact kh h2
  ·split
   ·exact h3
   ·exact h3.cons (by rw[hf.1];assumption)
 ·have hk:tk kind l (t::c')=.bad t.p 80:=by
   unfold tk
   exact if_neg hf
  rw[hk]
  exact⟨rfl,MT.ofBelow hb⟩
theorem bf {w:World} {r:Nat} {c:List ak} {vt:Value} {B:Nat} {Ts:List TypeId} (h:Rs w r c vt) (m:List UInt8) (hB:B<=r) (hT:213∈Ts) :
 Calls prog 133 #[.pointer (some ⟨r,0,none⟩),.string ⟨m.toArray⟩] w
  (aX (fun t c' v w'=>v=t.v/\Rs w' r c' vt) B Ts w (tk 3 [m] c)):=by
 obtain⟨ts,i,h1,h2,h3⟩:=h
 obtain⟨t,c',rfl⟩:=h3.some
 have ht:ts[i]? = some t:=by
  have:=congrArg (·[0]?) h2
  simpa using this
 refine (BY w r ts i vt h1 t ht m).mono ?_
 rintro e w' (⟨hf,rfl,hr,hm⟩ | ⟨hf,rfl,hb⟩)
 ·have hk:tk 3 [m] (t::c')=.ok t c':=by
   unfold tk
   exact if_pos hf
  rw[hk]
  exact⟨_,rfl,⟨rfl,ts,i+1,hr,kh h2,h3.cons (by rw[hf.1];decide)⟩,MT.ofMod hm h1.blk hT hB⟩
 ·have hk:tk 3 [m] (t::c')=.bad t.p 80:=by
   unfold tk
   exact if_neg hf
  rw[hk]
  exact⟨rfl,MT.ofBelow hb⟩
section
variable {α : Type}
def lL (ys:List α):PR (List α)->PR (List α)
 | .bad a e=>.bad a e
 | .ok xs ts=>.ok (ys++xs) ts
def bz (P:List ak->PR α) (ys:List α) (c:List ak):PR (List α):=lL ys (bq P c.length c)
theorem vd (ys:List α) (x:α) (m:PR (List α)):lL ys (match m with | .bad a e=>.bad a e | .ok xs ts=>.ok (x::xs) ts)=lL (ys++[x]) m:=by
 cases m<;>simp [lL]
theorem er {P:List ak->PR α} {c:List ak} {a e:Int} (h:P c=.bad a e):aQ P c=.bad a e:=by
 unfold aQ
 rw[h]
theorem ek {P:List ak->PR α} {c c1:List ak} {x:α} (h:P c=.ok x c1):aQ P c=bz P [x] c1:=by
 unfold aQ bz
 rw[h]
 simp only
 cases bq P c1.length c1<;>simp [lL]
theorem cY {P:List ak->PR α} (ys:List α) {c:List ak} (h:cV [44] c=false):bz P ys c=.ok ys c:=by
 unfold bz
 cases c with
 | nil=>simp [bq,lL]
 | cons t r=>simp [bq,h,lL]
theorem ea {P:List ak->PR α} (ys:List α) {c:List ak} {a e:Int} (h:cV [44] c=true) (hp:P (c.drop 1)=.bad a e):bz P ys c=.bad a e:=by
 unfold bz
 cases c with
 | nil=>simp [cV] at h
 | cons t r =>
   have hp':P r=.bad a e:=by simpa using hp
   simp [bq,h,hp',lL]
theorem dQ {P:List ak->PR α} (hl:dp P) (ys:List α) {c c1:List ak} {x:α} (h:cV [44] c=true) (hp:P (c.drop 1)=.ok x c1):bz P ys c=bz P (ys++[x]) c1/\c1.length<c.length:=by
 cases c with
 | nil=>simp [cV] at h
 | cons t r =>
   have hp':P r=.ok x c1:=by simpa using hp
   have h1:=hl _ _ _ hp'
   refine⟨?_,by simp;omega⟩
   unfold bz
   rw[uJ hl c1.length r.length c1 FA h1]
   simp only[List.length_cons,bq,h,if_true,List.drop_succ_cons,List.drop_zero,hp']
   exact vd ys x _
theorem fw {m:List UInt8} {c:List ak} (h:cV m c=true):∃ t,tk 3 [m] c=.ok t (c.drop 1):=by
 cases c with
 | nil=>simp [cV] at h
 | cons t r =>
   have hh:t.k=3/\t.x=m:=by simpa [cV] using h
   refine⟨t,?_⟩
   simp [tk,hh.1,hh.2]
end
structure dd where
 x:List UInt8
 k:Int
 n:Int
 t:List UInt8
deriving DecidableEq
structure eb where
 rel:List UInt8
 ts:List dd
deriving DecidableEq
structure cf where
 name:List UInt8
 head:List (List UInt8)
 atoms:List eb
deriving DecidableEq
def aY (ts:List ak):PR (List UInt8 × Int) :=
 match tk 1 [] ts with
 | .bad a e=>.bad a e
 | .ok t ts1=>.ok (t.x,t.p) ts1
def kQ:List ak->Bool
 | []=>false
 | t::_=>decide (t.k=2)
def bK (ts:List ak):PR (dd × Int) :=
 if kQ ts=true then
  match tk 2 [] ts with
  | .bad a e=>.bad a e
  | .ok t ts1=>.ok (⟨[],t.vk,t.vn,t.vt⟩,t.p) ts1
 else
  match tk 1 [] ts with
  | .bad a e=>.bad a e
  | .ok t ts1=>.ok (⟨t.x,0,0,[]⟩,t.p) ts1
def bS (ts:List ak):PR ((List UInt8 × Int) × List (dd × Int)) :=
 match aY ts with
 | .bad a e=>.bad a e
 | .ok x ts1 =>
   match aJ bK ts1 with
   | .bad a e=>.bad a e
   | .ok l ts2=>.ok (x,l) ts2
theorem yr {α:Type} {P:List ak->PR α} (hl:dp P):∀ (f:Nat) (ts:List ak) (xs:List α) (ts':List ak),bq P f ts=.ok xs ts'->ts'.length<=ts.length:=by
 intro f
 induction f with
 | zero=>intro ts xs ts' h;simp [bq] at h;rw[h.2];exact Nat.le_refl _
 | succ f ih =>
   intro ts xs ts' h
   unfold bq at h
   split at h
   ·cases ho:P (ts.drop 1) with
    | bad a e=>rw[ho] at h;simp at h
    | ok x ts1 =>
      rw[ho] at h
      simp only at h
      have h1:=hl _ _ _ ho
      have h4:(ts.drop 1).length=ts.length - 1:=List.length_drop ..
      cases hm:bq P f ts1 with
      | bad a e=>rw[hm] at h;simp at h
      | ok ys ts2 =>
        rw[hm] at h
        have h2:=ih _ _ _ hm
        simp at h
        obtain⟨_,rfl⟩:=h
        omega
   ·simp at h
    rw[h.2]
    exact Nat.le_refl _
theorem pF {α:Type} {P:List ak->PR α} (hl:dp P):dp (aQ P):=by
 intro ts xs ts' h
 unfold aQ at h
 cases ho:P ts with
 | bad a e=>rw[ho] at h;simp at h
 | ok x ts1 =>
   rw[ho] at h
   simp only at h
   have h1:=hl _ _ _ ho
   cases hm:bq P ts1.length ts1 with
   | bad a e=>rw[hm] at h;simp at h
   | ok ys ts2 =>
     rw[hm] at h
     have h2:=yr hl _ _ _ _ hm
     simp at h
     obtain⟨_,rfl⟩:=h
     omega
theorem lr {α:Type} {P:List ak->PR α} (hl:dp P):dp (aJ P):=by
 intro ts xs ts' h
 unfold aJ at h
 cases h1:tk 3 [[40]] ts with
 | bad a e=>rw[h1] at h;simp at h
 | ok x ts1 =>
   rw[h1] at h
   have g1:=cA _ _ _ _ _ h1
   simp only at h
   cases h2:(if cV [41] ts1=true then (.ok [] ts1:PR (List α)) else aQ P ts1) with
   | bad a e=>rw[h2] at h;simp at h
   | ok ys ts2 =>
     rw[h2] at h
     have g2:ts2.length<=ts1.length:=by
      split at h2
      ·simp at h2;rw[h2.2];exact Nat.le_refl _
      ·exact pF hl _ _ _ h2
     simp only at h
     cases h3:tk 3 [[41]] ts2 with
     | bad a e=>rw[h3] at h;simp at h
     | ok z ts3 =>
       rw[h3] at h
       have g3:=cA _ _ _ _ _ h3
       simp at h
       obtain⟨_,rfl⟩:=h
       omega
theorem dH:dp aY:=by
 intro ts xs ts' h
 unfold aY at h
 cases h1:tk 1 [] ts with
 | bad a e=>rw[h1] at h;simp at h
 | ok x ts1 =>
   rw[h1] at h
   have g1:=cA _ _ _ _ _ h1
   simp at h
   obtain⟨_,rfl⟩:=h
   exact g1
theorem gn:dp bK:=by
 intro ts xs ts' h
 unfold bK at h
 split at h
 ·cases h1:tk 2 [] ts with
  | bad a e=>rw[h1] at h;simp at h
  | ok x ts1 =>
    rw[h1] at h
    have g1:=cA _ _ _ _ _ h1
    simp at h
    obtain⟨_,rfl⟩:=h
    exact g1
 ·cases h1:tk 1 [] ts with
  | bad a e=>rw[h1] at h;simp at h
  | ok x ts1 =>
    rw[h1] at h
    have g1:=cA _ _ _ _ _ h1
    simp at h
    obtain⟨_,rfl⟩:=h
    exact g1
theorem eS:dp bS:=by
 intro ts xs ts' h
 unfold bS at h
 cases h1:aY ts with
 | bad a e=>rw[h1] at h;simp at h
 | ok x ts1 =>
   rw[h1] at h
   have g1:=dH _ _ _ h1
   simp only at h
   cases h2:aJ bK ts1 with
   | bad a e=>rw[h2] at h;simp at h
   | ok l ts2 =>
     rw[h2] at h
     have g2:=lr gn _ _ _ h2
     simp at h
     obtain⟨_,rfl⟩:=h
     omega
theorem kx:dp eo:=by
 intro ts xs ts' h
 unfold eo at h
 cases h1:tk 1 [] ts with
 | bad a e=>rw[h1] at h;simp at h
 | ok x ts1 =>
   rw[h1] at h
   have g1:=cA _ _ _ _ _ h1
   simp only at h
   cases h2:tk 1 [[105,110,116],[116,101,120,116]] ts1 with
   | bad a e=>rw[h2] at h;simp at h
   | ok y ts2 =>
     rw[h2] at h
     have g2:=cA _ _ _ _ _ h2
     simp at h
     obtain⟨_,rfl⟩:=h
     omega
section
variable {α β : Type} {R S : β -> α -> Prop}
def aH (R:β->α->Prop):List β->List α->Prop
 | [],[]=>True
 | b::bs,a::al=>R b a/\aH R bs al
 | _,_=>False
theorem aH.mono (hRS:∀ b a,R b a->S b a):∀ {bs:List β} {al:List α},aH R bs al->aH S bs al
 | [],[],_=>trivial
 | _::_,_::_,h=>⟨hRS _ _ h.1,aH.mono hRS h.2⟩
 | [],_::_,h=>h.elim
 | _::_,[],h=>h.elim
theorem aH.snoc {b:β} {a:α} (hb:R b a):∀ {bs:List β} {al:List α},aH R bs al->aH R (bs++[b]) (al++[a])
 | [],[],_=>⟨hb,trivial⟩
 | _::_,_::_,h=>⟨h.1,aH.snoc hb h.2⟩
 | [],_::_,h=>h.elim
 | _::_,[],h=>h.elim
theorem aH.length:∀ {bs:List β} {al:List α},aH R bs al->bs.length=al.length
 | [],[],_=>rfl
 | _::_,_::_,h=>congrArg Nat.succ h.2.length
 | [],_::_,h=>h.elim
 | _::_,[],h=>h.elim
theorem aH.get:∀ {bs:List β} {al:List α},aH R bs al->∀ {i:Nat} {a:α},al[i]? = some a->∃ b,bs[i]? = some b/\R b a
 | [],[],_,i,a,h=>by simp at h
 | b::_,_::_,h,0,a,e=>by simp at e;subst e;exact⟨b,rfl,h.1⟩
 | _::_,_::_,h,i+1,a,e=>by
   obtain⟨b,h1,h2⟩:=h.2.get (i:=i) (a:=a) (by simpa using e)
   exact⟨b,by simpa using h1,h2⟩
 | [],_::_,h,_,_,_=>h.elim
 | _::_,[],h,_,_,_=>h.elim
end
section
variable {α : Type}
def jE (sz:Nat) (El:World->List Value->α->Prop) (w:World) (cs:List Value) (x:α):Prop:=cs.length=sz/\(∀ u∈cs,u.oneCell'=true)/\El w cs x
def lx (sz:Nat) (El:World->List Value->α->Prop) (J:World->List α->Prop) (r:Nat) (vt:Value) (xs:List α) (x:α) (c:List ak) (v:Value) (w:World):Prop :=
 ∃ cs:List Value,v=.agg cs.toArray/\jE sz El w cs x/\J w (xs++[x])/\Rs w r c vt
def jW (B0:Nat) (T:TypeId) (sz:Nat) (El:World->List Value->α->Prop) (J:World->List α->Prop) (r:Nat) (vt:Value) (xs:List α) (c:List ak) (v:Value) (w:World):Prop :=
 ∃ css:List (List Value),w.ownsRow B0 T sz v xs.length css.flatten/\aH (jE sz El w) css xs/\J w xs/\Rs w r c vt
theorem az {R:α->List ak->Value->World->Prop} {B:Nat} {Ts:List TypeId} {w w':World} {a e:Int} (h:MT B Ts w w'):aX R B Ts w (.bad a e) (.panicked [{ v:=aP a e,recovered:=false }]) w':=⟨rfl,h⟩
theorem aX.mono {R S:α->List ak->Value->World->Prop} {B:Nat} {Ts:List TypeId} {w:World} (h:∀ x c v w',R x c v w'->S x c v w') {p:PR α} {e:Ending} {w':World} (hp:aX R B Ts w p e w'):aX S B Ts w p e w':=by
 cases p with
 | bad a f=>exact hp
 | ok x c =>
   obtain⟨v,h1,h2,h3⟩:=hp
   exact⟨v,h1,h _ _ _ _ h2,h3⟩
theorem mw {cs:List Value} (h:cs.length=2):∃ a b,cs=[a,b]:=by
 match cs,h with
 | [a,b],_=>exact⟨a,b,rfl⟩
theorem te {cs:List Value} (h:cs.length=3):∃ a b c,cs=[a,b,c]:=by
 match cs,h with
 | [a,b,c],_=>exact⟨a,b,c,rfl⟩
theorem Fa {cs:List Value} (h:cs.length=4):∃ a b c d,cs=[a,b,c,d]:=by
 match cs,h with
 | [a,b,c,d],_=>exact⟨a,b,c,d,rfl⟩
theorem EM {cs:List Value} (h:cs.length=5):∃ a b c d e,cs=[a,b,c,d,e]:=by
 match cs,h with
 | [a,b,c,d,e],_=>exact⟨a,b,c,d,e,rfl⟩
theorem iX {P:List ak->PR α} {c:List ak} {a e:Int} (h:tk 3 [[40]] c=.bad a e):aJ P c=.bad a e:=by
 unfold aJ
 rw[h]
theorem eY {P:List ak->PR α} {c c1:List ak} {t:ak} (h:tk 3 [[40]] c=.ok t c1) (h2:cV [41] c1=true):aJ P c=.ok [] (c1.drop 1):=by
 obtain⟨u,hu⟩:=fw h2
 unfold aJ
 rw[h]
 simp only[h2,if_true,hu]
theorem iZ {P:List ak->PR α} {c c1:List ak} {t:ak} {a e:Int} (h:tk 3 [[40]] c=.ok t c1) (h2:cV [41] c1=false) (h3:aQ P c1=.bad a e):aJ P c=.bad a e:=by
 unfold aJ
 rw[h]
 simp [h2,h3]
theorem iO {P:List ak->PR α} {c c1 c2:List ak} {t:ak} {xs:List α} {a e:Int} (h:tk 3 [[40]] c=.ok t c1) (h2:cV [41] c1=false) (h3:aQ P c1=.ok xs c2) (h4:tk 3 [[41]] c2=.bad a e):aJ P c=.bad a e:=by
 unfold aJ
 rw[h]
 simp [h2,h3,h4]
theorem iL {P:List ak->PR α} {c c1 c2 c3:List ak} {t u:ak} {xs:List α} (h:tk 3 [[40]] c=.ok t c1) (h2:cV [41] c1=false) (h3:aQ P c1=.ok xs c2) (h4:tk 3 [[41]] c2=.ok u c3):aJ P c=.ok xs c3:=by
 unfold aJ
 rw[h]
 simp [h2,h3,h4]
theorem aB {w:World} {base:Nat} {e:TypeId} {size n:Nat} {v:Value} {xs:List Value} (h:w.ownsRow base e size v n xs):∃ (a:Option Addr) (cap:Nat),v=.slice a n cap:=by
 rcases h.2 with ⟨rfl,rfl⟩ | ⟨g,cap,cur,rfl,_⟩
 ·exact⟨none,0,rfl⟩
 ·exact⟨_,cap,rfl⟩
theorem World.ownsRow.low {w:World} {base base':Nat} {e:TypeId} {size n:Nat} {v:Value} {xs:List Value} (h:w.ownsRow base e size v n xs) (hb:base'<=base):w.ownsRow base' e size v n xs:=by
 refine⟨h.1,?_⟩
 rcases h.2 with h2 | ⟨g,cap,cur,h1,h2,h3⟩
 ·exact .inl h2
 ·exact .inr ⟨g,cap,cur,h1,Nat.le_trans hb h2,h3⟩
end
section
variable {α : Type} {P : List ak -> PR α}
theorem A0:∀ (f:Nat) (c c':List ak) (xs:List α),bq P f c=.ok xs c'->xs.length<=f:=by
 intro f
 induction f with
 | zero=>intro c c' xs h;simp [bq] at h;rw[h.1];exact Nat.le_refl _
 | succ f ih =>
   intro c c' xs h
   unfold bq at h
   split at h
   ·cases ho:P (c.drop 1) with
    | bad a e=>rw[ho] at h;simp at h
    | ok x c1 =>
      rw[ho] at h
      simp only at h
      cases hm:bq P f c1 with
      | bad a e=>rw[hm] at h;simp at h
      | ok ys c2 =>
        rw[hm] at h
        have h2:=ih _ _ _ hm
        simp at h
        obtain⟨rfl,_⟩:=h
        simp
        omega
   ·simp at h
    rw[h.1]
    simp
theorem rO (hl:dp P) {c c':List ak} {xs:List α} (h:aQ P c=.ok xs c'):xs.length<=c.length+1:=by
 unfold aQ at h
 cases ho:P c with
 | bad a e=>rw[ho] at h;simp at h
 | ok x c1 =>
   rw[ho] at h
   simp only at h
   have h1:=hl _ _ _ ho
   cases hm:bq P c1.length c1 with
   | bad a e=>rw[hm] at h;simp at h
   | ok ys c2 =>
     rw[hm] at h
     have h2:=A0 _ _ _ _ hm
     simp at h
     obtain⟨rfl,_⟩:=h
     simp
     omega
theorem ox (hl:dp P) {c c':List ak} {xs:List α} (h:aJ P c=.ok xs c'):xs.length<=c.length+1:=by
 unfold aJ at h
 cases h1:tk 3 [[40]] c with
 | bad a e=>rw[h1] at h;simp at h
 | ok x ts1 =>
   rw[h1] at h
   have g1:=cA _ _ _ _ _ h1
   simp only at h
   cases h2:(if cV [41] ts1=true then (.ok [] ts1:PR (List α)) else aQ P ts1) with
   | bad a e=>rw[h2] at h;simp at h
   | ok ys ts2 =>
     rw[h2] at h
     have g2:ys.length<=ts1.length+1:=by
      split at h2
      ·simp at h2;rw[h2.1];simp
      ·exact rO hl h2
     simp only at h
     cases h3:tk 3 [[41]] ts2 with
     | bad a e=>rw[h3] at h;simp at h
     | ok z ts3 =>
       rw[h3] at h
       simp at h
       obtain⟨rfl,_⟩:=h
       omega
theorem As {Q:α->Prop} {N:Nat} (hl:dp P) (hQ:∀ c x c',c.length<=N->P c=.ok x c'->Q x):∀ (f:Nat) (c c':List ak) (xs:List α),c.length<=N->bq P f c=.ok xs c'->∀ x∈xs,Q x:=by
 intro f
 induction f with
 | zero=>intro c c' xs _ h;simp [bq] at h;rw[h.1];simp
 | succ f ih =>
   intro c c' xs hc h
   unfold bq at h
   split at h
   ·have h4:(c.drop 1).length=c.length - 1:=List.length_drop ..
    cases ho:P (c.drop 1) with
    | bad a e=>rw[ho] at h;simp at h
    | ok x c1 =>
      rw[ho] at h
      simp only at h
      have h1:=hl _ _ _ ho
      cases hm:bq P f c1 with
      | bad a e=>rw[hm] at h;simp at h
      | ok ys c2 =>
        rw[hm] at h
        have h2:=ih _ _ _ (by omega) hm
        have h3:=hQ _ _ _ (by omega) ho
        simp at h
        obtain⟨rfl,_⟩:=h
        intro y hy
        rcases List.mem_cons.1 hy with rfl | hy
        ·exact h3
        ·exact h2 y hy
   ·simp at h
    rw[h.1]
    simp
theorem zN {Q:α->Prop} {N:Nat} (hl:dp P) (hQ:∀ c x c',c.length<=N->P c=.ok x c'->Q x) {c c':List ak} {xs:List α} (hc:c.length<=N) (h:aQ P c=.ok xs c'):∀ x∈xs,Q x:=by
 unfold aQ at h
 cases ho:P c with
 | bad a e=>rw[ho] at h;simp at h
 | ok x c1 =>
   rw[ho] at h
   simp only at h
   have h1:=hl _ _ _ ho
   cases hm:bq P c1.length c1 with
   | bad a e=>rw[hm] at h;simp at h
   | ok ys c2 =>
     rw[hm] at h
     have h2:=As hl hQ _ _ _ _ (by omega) hm
     have h3:=hQ _ _ _ hc ho
     simp at h
     obtain⟨rfl,_⟩:=h
     intro y hy
     rcases List.mem_cons.1 hy with rfl | hy
     ·exact h3
     ·exact h2 y hy
end
theorem zP {c c':List ak} {x:(List UInt8 × Int) × List (dd × Int)} (h:bS c=.ok x c'):x.2.length<=c.length+1:=by
 unfold bS at h
 cases h1:aY c with
 | bad a e=>rw[h1] at h;simp at h
 | ok n ts1 =>
   rw[h1] at h
   have g1:=dH _ _ _ h1
   simp only at h
   cases h2:aJ bK ts1 with
   | bad a e=>rw[h2] at h;simp at h
   | ok l ts2 =>
     rw[h2] at h
     have g2:=ox gn h2
     simp at h
     obtain⟨rfl,_⟩:=h
     simp only
     omega
