/- Reading through a line's tokens, plainly. The reader, walked: Peek, Is. The reader, walked: Take. The reader, walked: Mark. reader.Caught, walked. Worlds that differ in blocks of some types alone: no program in sight. The reader by what is left to read: Peek, Is, Take, Mark. Reading a query's tokens, plainly. Two lists side by side; what a step of a list reader leaves. -/
import Derived.Test.YtgopfpjinohncaaGreatDoorShelfZL
import Derived.WalkSpells
import Derived.WalkLawsBesides
import Derived.Deep.QuietTactic
import Derived.BigQuiet
import Derived.Lib.Hide
import Derived.Deep.AppendLies
import Derived.Deep.RegionLaw
import Derived.Laws.OwnMore
namespace Go.Proofs.YtgopfpjinohncaaGreatDoor
open Go.RowKit
set_option linter.unusedVariables false
inductive PR (α:Type) where
 | bad (at_ e:Int)
 | ok (x:α) (ts:List Tok)
def tk (k:Int) (xs:List (List UInt8)):List Tok->PR Tok
 | []=>.bad 0 0
 | t::r=>if t.k=k/\(xs=[]∨t.x∈xs) then .ok t (if k=0 then t::r else r) else .bad t.p 80
def isM (m:List UInt8):List Tok->Bool
 | []=>false
 | t::_=>decide (t.k=3/\t.x=m)
structure Rd (w:World) (r:Nat) (ts:List Tok) (i:Nat) (vt:Value):Prop where
 blk:Blk w r 213 #[vt,.int .i64 i]
 row:w.ownsRow 0 122 6 vt ts.length (tcells ts)
 len:ts.length<=100000
theorem Rd.keep {w w':World} {r:Nat} {ts:List Tok} {i:Nat} {vt:Value} (h:Rd w r ts i vt) (hb:Below w.heap.size w w'):Rd w' r ts i vt :=
 have hm:Mod (fun _=>False) w w':=Mod.ofBelow hb
 ⟨h.blk.mod hm (fun f=>f),hm.ownsRow h.row (fun _ _ f=>f),h.len⟩
theorem Rd.at {w:World} {r:Nat} {ts:List Tok} {i:Nat} {vt:Value} (h:Rd w r ts i vt) {j:Nat} {t:Tok} (ht:ts[j]? = some t):∃ g cap,vt=.slice (some ⟨g,0,none⟩) ts.length cap/\ts.length<=cap/\cap<=maxLen/\g<w.heap.size /\
 w.cell? ⟨g,j * 6,none⟩=some (.int .i64 t.k)/\w.cell? ⟨g,j * 6+1,none⟩=some (.string ⟨t.x.toArray⟩)/\w.cell? ⟨g,j * 6+2,none⟩=some (.int .i64 t.vk)/\w.cell? ⟨g,j * 6+3,none⟩=some (.int .i64 t.vn)/\w.cell? ⟨g,j * 6+4,none⟩=some (.string ⟨t.vt.toArray⟩)/\w.cell? ⟨g,j * 6+5,none⟩=some (.int .i64 t.p):=by
 have hs:=h.row
 have hl:j<ts.length:=(List.getElem?_eq_some_iff.1 ht).1
 have hln:=tcells_len ts
 rcases hs.2 with ⟨_,h0⟩ | ⟨g,cap,cur,rfl,_,hg,hnc,hcm,_⟩
 ·omega
 ·obtain⟨h0,h1,h2,h3,h4,h5⟩:=tcells_at ts j t ht
  exact⟨g,cap,rfl,hnc,hcm,(Array.getElem?_eq_some_iff.1 hg).1,(hs.cellAt _ (by omega)).trans h0,(hs.cellAt _ (by omega)).trans h1,(hs.cellAt _ (by omega)).trans h2,(hs.cellAt _ (by omega)).trans h3,(hs.cellAt _ (by omega)).trans h4,(hs.cellAt _ (by omega)).trans h5⟩
set_option maxHeartbeats 4000000 in
set_option maxRecDepth 100000 in
theorem peek_any (w:World) (r:Nat) (ts:List Tok) (i:Nat) (vt:Value) (h:Rd w r ts i vt) (t:Tok) (ht:ts[i]? = some t) :
 Calls Tryz.prog 55 #[.pointer (some ⟨r,0,none⟩)] w fun e w'=>e=.returned t.v/\Below w.heap.size w w':=by
 obtain⟨g,cap,rfl,hnc,hcm,hg,k0,k1,k2,k3,k4,k5⟩:=h.at ht
 have hl:i<ts.length:=(List.getElem?_eq_some_iff.1 ht).1
 have x0:=h.blk.cell 0
 have x1:=h.blk.cell 1
 simp at x0 x1
 have hr:=h.blk.lt
 have hlen:=h.len
 unfold maxLen at hcm
 have hd:decide ((i:Int)<0)=false:=by simp
 have hd2:decide ((ts.length:Int)<=(i:Int))=false:=by simp;omega
 have hd3:decide (ts.length<=i)=false:=by simp;omega
 unfold Tok.v
 clear h ht
 go_enter Tryz.func55,Tryz.ntmps55
 go_wp2_with fail
 go_region
 all_goals
  go_wp2_with fail
  refine bodyPost_ret (v:=t.v) (by simp [results,Tryz.results55,go_sem,Tok.v]) rfl ⟨rfl,?_⟩
  exact bdrew (balloc (Below.refl _ _) _)
set_option maxHeartbeats 4000000 in
set_option maxRecDepth 100000 in
theorem is_any (w:World) (r:Nat) (ts:List Tok) (i:Nat) (vt:Value) (h:Rd w r ts i vt) (t:Tok) (ht:ts[i]? = some t) (m:List UInt8) :
 Calls Tryz.prog 146 #[.pointer (some ⟨r,0,none⟩),.string ⟨m.toArray⟩] w fun e w'=>e=.returned (.bool (decide (t.k=3/\t.x=m)))/\Below w.heap.size w w':=by
 have HP:=Lib.hid (fun W (hW:Rd W r ts i vt)=>peek_any W r ts i vt hW t ht)
 have H:=Lib.hid h
 clear h ht
 have hx:(t.x=m) ↔ ((⟨t.x.toArray⟩:ByteArray)=⟨m.toArray⟩):=by
  constructor
  ·rintro rfl;rfl
  ·intro e;simpa using e
 by_cases hk:t.k=3
 ·have q1:(t.k == 3)=true:=by simpa using hk
  by_cases hm:t.x=m
  ·subst hm
   have hres:decide (t.k=3/\t.x=t.x)=true:=by simp [hk]
   rw[hres]
   clear hx hres
   go_enter Tryz.func146,Tryz.ntmps146
   go_wp2_with fail
   refine (HP.out _ H.out).mono ?_
   rintro e w1 ⟨rfl,hb⟩
   have HB:=Lib.hid hb
   clear hb
   unfold Tok.v
   go_wp2_with fail
   go_ret
   exact⟨by simp,balloc HB.out _⟩
  ·have hres:decide (t.k=3/\t.x=m)=false:=by simp [hm]
   have hne:¬ ((⟨t.x.toArray⟩:ByteArray)=⟨m.toArray⟩):=fun e=>hm (hx.2 e)
   rw[hres]
   clear hx hres
   go_enter Tryz.func146,Tryz.ntmps146
   go_wp2_with fail
   refine (HP.out _ H.out).mono ?_
   rintro e w1 ⟨rfl,hb⟩
   have HB:=Lib.hid hb
   clear hb
   unfold Tok.v
   go_wp2_with fail
   go_ret
   exact⟨by simp [hm],balloc HB.out _⟩
 ·have q1:(t.k == 3)=false:=by simpa using hk
  have hres:decide (t.k=3/\t.x=m)=false:=by simp [hk]
  rw[hres]
  clear hx hres
  go_enter Tryz.func146,Tryz.ntmps146
  go_wp2_with fail
  refine (HP.out _ H.out).mono ?_
  rintro e w1 ⟨rfl,hb⟩
  have HB:=Lib.hid hb
  clear hb
  unfold Tok.v
  go_wp2_with fail
  go_ret
  exact⟨rfl,balloc HB.out _⟩
def TX (w:World) (sv:Value) (l:List (List UInt8)):Prop :=
 l.length<=1000/\∃ (ad:Option Addr) (cap:Nat),sv=.slice ad l.length cap/\(l=[]∨∃ b off:Nat,ad=some ⟨b,off,none⟩/\b<w.heap.size/\∀ (j:Nat) (s:List UInt8),l[j]? = some s->w.cell? ⟨b,off+j,none⟩=some (.string ⟨s.toArray⟩))
def nextI (kind:Int) (i:Nat):Nat:=if kind=0 then i else i+1
def fits (t:Tok) (k:Int) (l:List (List UInt8)):Prop:=t.k=k/\(l=[]∨t.x∈l)
theorem bytes_eq {a b:List UInt8}:((⟨a.toArray⟩:ByteArray)=⟨b.toArray⟩) ↔ a=b:=by
 constructor
 ·intro e;simpa using e
 ·rintro rfl;rfl
def goodT (t:Tok) (k:Int) (l:List (List UInt8)) (j:Nat):Bool:=decide (t.k=k) && (l.isEmpty || (l.take j).contains t.x)
theorem goodT_fits (t:Tok) (k:Int) (l:List (List UInt8)):goodT t k l l.length=true ↔ fits t k l:=by
 unfold goodT fits
 rw[List.take_length]
 simp [List.isEmpty_iff]
theorem goodT_step {t:Tok} {k:Int} {l:List (List UInt8)} {j:Nat} {s:List UInt8} (hj:l[j]? = some s):goodT t k l (j+1)=(goodT t k l j || (decide (t.k=k) && decide (t.x=s))):=by
 have hl:j<l.length:=(List.getElem?_eq_some_iff.1 hj).1
 have hs:l[j]=s:=(List.getElem?_eq_some_iff.1 hj).2
 unfold goodT
 rw[List.take_add_one,hj]
 simp only[Option.toList_some,List.contains_append]
 cases decide (t.k=k)<;>simp [Bool.or_assoc]
set_option maxHeartbeats 8000000 in
set_option maxRecDepth 100000 in
theorem take_any (w:World) (r:Nat) (ts:List Tok) (i:Nat) (vt:Value) (h:Rd w r ts i vt) (t:Tok) (ht:ts[i]? = some t) (kind:Int) (l:List (List UInt8)) (sv:Value) (hx:TX w sv l) :
 Calls Tryz.prog 57 #[.pointer (some ⟨r,0,none⟩),.int .i64 kind,sv] w fun e w' =>
  (fits t kind l/\e=.returned t.v/\Rd w' r ts (nextI kind i) vt/\Mod (fun k=>k=r) w w') ∨
  (¬ fits t kind l/\e=.panicked [{ v:=.iface 126 (.agg #[.int .i64 t.p,.int .i64 80]),recovered:=false }]/\Below w.heap.size w w'):=by
 have HP:=Lib.hid (fun W (hW:Rd W r ts i vt)=>peek_any W r ts i vt hW t ht)
 have hil:i<ts.length:=(List.getElem?_eq_some_iff.1 ht).1
 have hlen:=h.len
 have HX:=Lib.hid hx
 obtain⟨hl1,ad,cap,rfl,htx⟩:=hx
 have HTX:=Lib.hid htx
 have H:=Lib.hid h
 have hr:=h.blk.lt
 clear h ht htx
 have hb0:Below w.heap.size w (w.alloc (.cells #[.int .i64 0,.string ⟨#[]⟩,.int .i64 0,.int .i64 0,.string ⟨#[]⟩,.int .i64 0] 122)):=balloc (Below.refl _ _) _
 have HB0:=Lib.hid hb0
 clear hb0
 go_enter Tryz.func57,Tryz.ntmps57
 go_wp2_with fail
 refine (HP.out _ (H.out.keep HB0.out)).mono ?_
 rintro e w1 ⟨rfl,hb⟩
 have HB:=Lib.hid (HB0.out.trans (hb.mono (by simp)))
 have hz1:=hb.size
 have z0:=(Blk.new w 122 #[.int .i64 0,.string ⟨#[]⟩,.int .i64 0,.int .i64 0,.string ⟨#[]⟩,.int .i64 0]).below hb (by simp)
 simp at hz1
 have hz2:w.heap.size<w1.heap.size:=by omega
 have Z0:=Lib.hid z0
 clear hb z0 hz1
 have hg0:goodT t kind l 0=(decide (t.k=kind) && decide (l.length=0)):=by
  unfold goodT
  cases l<;>simp
 have HG0:=Lib.hid hg0
 clear hg0
 obtain⟨W2,hW2⟩:∃ W2,W2=w1.alloc (.cells #[.int .i64 t.k,.string ⟨t.x.toArray⟩,.int .i64 t.vk,.int .i64 t.vn,.string ⟨t.vt.toArray⟩,.int .i64 t.p] 122):=⟨_,rfl⟩
 have hB2:Below w.heap.size w W2:=by rw[hW2];exact balloc HB.out _
 have tb:Blk W2 w1.heap.size 122 #[.int .i64 t.k,.string ⟨t.x.toArray⟩,.int .i64 t.vk,.int .i64 t.vn,.string ⟨t.vt.toArray⟩,.int .i64 t.p]:=by rw[hW2];exact Blk.new _ _ _
 have zb:Blk W2 w.heap.size 122 #[.int .i64 0,.string ⟨#[]⟩,.int .i64 0,.int .i64 0,.string ⟨#[]⟩,.int .i64 0]:=by rw[hW2];exact Z0.out.alloc _
 have HB2:=Lib.hid hB2
 have TB:=Lib.hid tb
 have ZB:=Lib.hid zb
 have t0:=tb.cell 0
 have t1:=tb.cell 1
 have t2:=tb.cell 2
 have t3:=tb.cell 3
 have t4:=tb.cell 4
 have t5:=tb.cell 5
 simp at t0 t1 t2 t3 t4 t5
 have HT:=Lib.hid (show w1.heap.size<W2.heap.size from tb.lt)
 have HW2:=Lib.hid hW2
 clear hB2 tb zb hW2
 unfold Tok.v
 by_cases hk:t.k=kind
 ·have q1:(t.k == kind)=true:=by simpa using hk
  subst hk
  have rd2:=H.out.keep HB2.out
  have x1:=rd2.blk.cell 1
  have y1:=rd2.blk.frozen 1
  simp at x1
  have hr2:=rd2.blk.lt
  have hrz:r≠w.heap.size:=by omega
  have hrt:r≠w1.heap.size:=by omega
  have hzt:w.heap.size≠w1.heap.size:=by omega
  have RD2:=Lib.hid rd2
  clear rd2
  have hcase:∀ Q:World->Prop,True:=fun _=>trivial
  clear hcase
  have hlz:decide (l.length=0)=true∨decide (l.length=0)=false:=by cases decide (l.length=0)<;>simp
  rcases hlz with hlz | hlz
  all_goals
   have hlz2:(((l.length:Nat):Int) == 0)=decide (l.length=0):=by
    by_cases h:l.length=0<;>simp [h]
   rw[hlz] at hlz2
   go_wp2_with fail
   rw[<-HW2.out]
   go_loopw [24,8] (fun ix gd wr=>∃ j:Nat,j<=l.length/\ix=.int .i64 j/\gd=.bool (goodT t t.k l j)/\wr=W2) (fun ix _ _=>l.length - (intOf ix).toNat)
   case atStart=>exact⟨0,Nat.zero_le _,rfl,by rw[HG0.out,hlz];simp,rfl⟩
   case round =>
    obtain⟨j,hj,rfl,rfl,hwr⟩:=hrel
    subst hwr
    by_cases hlt:j<l.length
    ·obtain⟨s,hs⟩:∃ s,l[j]? = some s:=⟨l[j],List.getElem?_eq_getElem hlt⟩
     have hstep:=goodT_step (t:=t) (k:=t.k) hs
     rcases HTX.out with h0 | ⟨b,off,rfl,hb,hcs⟩
     ·subst h0;simp at hlt
     have cs:=(HB2.out.cell (p:=⟨b,off+j,none⟩) hb).trans (hcs j s hs)
     have HST:=Lib.hid hstep
     clear hstep hcs hs
     cases hgd:goodT t t.k l j with
     | true =>
       have HGD:=Lib.hid hgd
       clear hgd
       go_wp2_with fail
       go_roundw
       case rel=>exact⟨j+1,by omega,by simp,by rw[HST.out,HGD.out];simp,trivial⟩
       case measure=>simp [intOf];omega
     | false =>
       have HGD:=Lib.hid hgd
       clear hgd
       go_wp2_with fail
       go_roundw
       case rel=>exact⟨j+1,by omega,by simp,by rw[HST.out,HGD.out];by_cases he:t.x=s<;>simp [he],trivial⟩
       case measure=>simp [intOf];omega
    ·obtain rfl:j=l.length:=by omega
     cases hgd:goodT t t.k l l.length with
     | false =>
       have hnf:¬ fits t t.k l:=fun hf=>by have:=(goodT_fits t t.k l).2 hf;rw[hgd] at this;cases this
       have HNF:=Lib.hid hnf
       clear hgd hnf
       go_wp2_with fail
       exact⟨rfl,.inr ⟨HNF.out,rfl,HB2.out⟩⟩
     | true =>
       have HFI:=Lib.hid ((goodT_fits t t.k l).1 hgd)
       clear hgd
       by_cases h0:t.k=0
       ·have q2:(t.k != 0)=false:=by simpa using h0
        have hni:nextI t.k i=i:=by unfold nextI;rw[if_pos h0]
        have HNI:=Lib.hid hni
        clear h0 hni
        go_wp2_with (refine wpList_store_blk rfl 122 _ _ rfl w.heap.size 122 _ _ rfl rfl ZB.out (by kernel_rfl) rfl (by simp [Value.oneCell']) ?_)
        intro w2 hb2 hm2 hz2
        have r0:=hb2.cell 0
        have r1:=hb2.cell 1
        have r2:=hb2.cell 2
        have r3:=hb2.cell 3
        have r4:=hb2.cell 4
        have r5:=hb2.cell 5
        simp only[List.getElem?_toArray,List.getElem?_cons_zero,List.getElem?_cons_succ] at r0 r1 r2 r3 r4 r5
        have HF2:=Lib.hid (Mod.own HB2.out hm2 (Nat.le_refl _))
        clear hb2 hm2 hz2
        go_wp2_with fail
        refine bodyPost_ret (v:=t.v) (by simp [results,Tryz.results57,go_sem,Tok.v, *]) rfl (.inl ⟨HFI.out,rfl,by rw[HNI.out];exact H.out.keep HF2.out,Mod.ofBelow HF2.out⟩)
       ·have q2:(t.k != 0)=true:=by simpa using h0
        have hni:nextI t.k i=i+1:=by unfold nextI;rw[if_neg h0]
        have HNI:=Lib.hid hni
        clear h0 hni
        go_wp2_with (refine wpList_store_blk rfl 122 _ _ rfl w.heap.size 122 _ _ rfl rfl (ZB.out.far (p:=⟨r,1,none⟩) (fun e=>hrz e.symm) _) (by kernel_rfl) rfl (by simp [Value.oneCell']) ?_)
        intro w2 hb2 hm2 hz2
        have r0:=hb2.cell 0
        have r1:=hb2.cell 1
        have r2:=hb2.cell 2
        have r3:=hb2.cell 3
        have r4:=hb2.cell 4
        have r5:=hb2.cell 5
        simp only[List.getElem?_toArray,List.getElem?_cons_zero,List.getElem?_cons_succ] at r0 r1 r2 r3 r4 r5
        have hMA:Mod (fun k=>k=r) w w2:=((Mod.ofBelow (F:=fun k=>k=r) HB2.out).setCell (p:=⟨r,1,none⟩) (fun _=>rfl) (.int .i64 ((i:Int)+1))).trans hm2 (fun k hk e=>by omega)
        have hbl:=(RD2.out.blk.set_ 1 (.int .i64 ((i:Int)+1))).mod hm2 hrz
        have hne:=own_blk_ne H.out.row H.out.blk (by decide)
        have hrd:Rd w2 r ts (i+1) vt:=⟨by simpa using hbl,hMA.ownsRow H.out.row (fun k hk e=>hne (by rw[hk,e])),H.out.len⟩
        have HRD:=Lib.hid hrd
        have HMA:=Lib.hid hMA
        clear hb2 hm2 hz2 hMA hbl hne hrd
        go_wp2_with fail
        refine bodyPost_ret (v:=t.v) (by simp [results,Tryz.results57,go_sem,Tok.v, *]) rfl (.inl ⟨HFI.out,rfl,by rw[HNI.out];exact HRD.out,HMA.out⟩)
 ·have q1:(t.k == kind)=false:=by simpa using hk
  go_wp2_with fail
  rw[<-HW2.out]
  go_loopw [24,8] (fun ix gd wr=>∃ j:Nat,j<=l.length/\ix=.int .i64 j/\gd=.bool (goodT t kind l j)/\wr=W2) (fun ix _ _=>l.length - (intOf ix).toNat)
  case atStart=>exact⟨0,Nat.zero_le _,rfl,by rw[HG0.out];simp [hk],rfl⟩
  case round =>
   obtain⟨j,hj,rfl,rfl,hwr⟩:=hrel
   subst hwr
   by_cases hlt:j<l.length
   ·obtain⟨s,hs⟩:∃ s,l[j]? = some s:=⟨l[j],List.getElem?_eq_getElem hlt⟩
    have hstep:=goodT_step (t:=t) (k:=kind) hs
    rcases HTX.out with h0 | ⟨b,off,rfl,hb,hcs⟩
    ·subst h0;simp at hlt
    have cs:=(HB2.out.cell (p:=⟨b,off+j,none⟩) hb).trans (hcs j s hs)
    have HST:=Lib.hid hstep
    clear hstep hcs hs
    cases hgd:goodT t kind l j with
    | true =>
      have HGD:=Lib.hid hgd
      clear hgd
      go_wp2_with fail
      go_roundw
      case rel=>exact⟨j+1,by omega,by simp,by rw[HST.out,HGD.out];simp,trivial⟩
      case measure=>simp [intOf];omega
    | false =>
      have HGD:=Lib.hid hgd
      clear hgd
      go_wp2_with fail
      go_roundw
      case rel=>exact⟨j+1,by omega,by simp,by rw[HST.out,HGD.out];simp [hk],trivial⟩
      case measure=>simp [intOf];omega
   ·obtain rfl:j=l.length:=by omega
    have hgf:goodT t kind l l.length=false:=by
     cases hgd:goodT t kind l l.length with
     | false=>rfl
     | true=>exact absurd ((goodT_fits t kind l).1 hgd).1 hk
    rw[hgf]
    have hnf:¬ fits t kind l:=fun hf=>hk hf.1
    have HNF:=Lib.hid hnf
    clear hgf hnf
    go_wp2_with fail
    exact⟨rfl,.inr ⟨HNF.out,rfl,HB2.out⟩⟩
set_option maxHeartbeats 8000000 in
set_option maxRecDepth 100000 in
theorem mark_any (w:World) (r:Nat) (ts:List Tok) (i:Nat) (vt:Value) (h:Rd w r ts i vt) (t:Tok) (ht:ts[i]? = some t) (m:List UInt8) :
 Calls Tryz.prog 133 #[.pointer (some ⟨r,0,none⟩),.string ⟨m.toArray⟩] w fun e w' =>
  (fits t 3 [m]/\e=.returned t.v/\Rd w' r ts (i+1) vt/\Mod (fun k=>k=r) w w') ∨
  (¬ fits t 3 [m]/\e=.panicked [{ v:=.iface 126 (.agg #[.int .i64 t.p,.int .i64 80]),recovered:=false }]/\Below w.heap.size w w'):=by
 have hr:=h.blk.lt
 have hb0:Below w.heap.size w ((w.alloc (.cells #[.int .i64 0,.string ⟨#[]⟩,.int .i64 0,.int .i64 0,.string ⟨#[]⟩,.int .i64 0] 122)).alloc (.cells #[.string ⟨m.toArray⟩] 9)):=balloc (balloc (Below.refl _ _) _) _
 have hx:TX ((w.alloc (.cells #[.int .i64 0,.string ⟨#[]⟩,.int .i64 0,.int .i64 0,.string ⟨#[]⟩,.int .i64 0] 122)).alloc (.cells #[.string ⟨m.toArray⟩] 9)) (.slice (some ⟨w.heap.size+1,0,none⟩) 1 1) [m]:=by
  refine⟨by simp,some ⟨w.heap.size+1,0,none⟩,1,rfl,.inr ⟨w.heap.size+1,0,rfl,by simp,?_⟩⟩
  intro j s hj
  match j with
  | 0=>simp at hj;subst hj;simp
  | j+1=>simp at hj
 have zb:=(Blk.new w 122 #[.int .i64 0,.string ⟨#[]⟩,.int .i64 0,.int .i64 0,.string ⟨#[]⟩,.int .i64 0]).alloc (.cells #[.string ⟨m.toArray⟩] 9)
 have HTK:=Lib.hid (take_any _ r ts i vt (h.keep hb0) t ht 3 [m] _ hx)
 have ZB:=Lib.hid zb
 have HB0:=Lib.hid hb0
 have hni:nextI 3 i=i+1:=rfl
 have HNI:=Lib.hid hni
 have hrz:w.heap.size≠r:=by omega
 have hrw:∀ k,vt.ownBlock=some k->k<w.heap.size:=fun k hk=>(h.row.lt k hk).2
 clear h hx hb0 ht hni zb
 go_enter Tryz.func133,Tryz.ntmps133
 go_wp2_with fail
 refine HTK.out.mono ?_
 rintro e w1 (⟨hf,rfl,hrd,hm⟩ | ⟨hf,rfl,hb⟩)
 ·have HF:=Lib.hid hf
  have HRD:=Lib.hid hrd
  have HM:=Lib.hid hm
  have zb1:=ZB.out.mod hm (by simpa using hrz)
  have ZB1:=Lib.hid zb1
  have hz:=hm.size
  simp at hz
  clear hf hrd hm zb1
  unfold Tok.v
  go_wp2_with (refine wpList_store_blk rfl 122 _ _ rfl w.heap.size 122 _ _ rfl rfl ZB1.out (by kernel_rfl) rfl (by simp [Value.oneCell']) ?_)
  intro w2 hb2 hm2 hz2
  have r0:=hb2.cell 0
  have r1:=hb2.cell 1
  have r2:=hb2.cell 2
  have r3:=hb2.cell 3
  have r4:=hb2.cell 4
  have r5:=hb2.cell 5
  simp only[List.getElem?_toArray,List.getElem?_cons_zero,List.getElem?_cons_succ] at r0 r1 r2 r3 r4 r5
  have hMA:Mod (fun k=>k=r) w w2:=((Mod.ofBelow (F:=fun k=>k=r) HB0.out).trans HM.out (fun k hk e=>e)).trans hm2 (fun k hk e=>by omega)
  have hrd2:Rd w2 r ts (i+1) vt:=by
   have h1:=HRD.out
   rw[HNI.out] at h1
   exact⟨h1.blk.mod hm2 (fun e=>hrz e.symm),hm2.ownsRow h1.row (fun k hk e=>by have:=hrw k hk;omega),h1.len⟩
  have HMA:=Lib.hid hMA
  have HRD2:=Lib.hid hrd2
  clear hb2 hm2 hz2 hMA hrd2
  go_wp2_with fail
  refine bodyPost_ret (v:=t.v) (by simp [results,Tryz.results133,go_sem,Tok.v, *]) rfl (.inl ⟨HF.out,rfl,HRD2.out,HMA.out⟩)
 ·have HF:=Lib.hid hf
  have HB:=Lib.hid hb
  clear hf hb
  go_wp2_with fail
  exact⟨rfl,.inr ⟨HF.out,rfl,HB0.out.trans (HB.out.mono (by simp;omega))⟩⟩
def faultV (at_ e:Int):Value:=.iface 126 (.agg #[.int .i64 at_,.int .i64 e])
set_option maxHeartbeats 2000000 in
set_option maxRecDepth 100000 in
theorem caught_nil (p q:Addr) (w:World):Calls Tryz.prog 53 #[.nilIface,.pointer (some p),.pointer (some q)] w fun e w'=>e=.returned (.bool false)/\w'=w:=by
 go_enter Tryz.func53,Tryz.ntmps53
 go_wp2_with fail
 go_ret
 exact⟨rfl,rfl⟩
def tyIn (w:World) (Ts:List TypeId) (k:Nat):Prop:=∃ cs t fr,w.heap[k]? = some (.cells cs t fr)/\t∈Ts
def MT (B:Nat) (Ts:List TypeId) (w w':World):Prop:=Mod (fun k=>B<=k/\tyIn w Ts k) w w'
section
variable {B B' : Nat} {Ts Ts' : List TypeId} {a b c w w' : World}
theorem MT.refl (w:World):MT B Ts w w:=Mod.refl _ w
theorem MT.trans (h:MT B Ts a b) (k:MT B Ts b c):MT B Ts a c :=
 ⟨k.os.trans h.os,k.tape.trans h.tape,k.output.trans h.output,Nat.le_trans h.size k.size,fun i hi hn=>by
  have e:=h.block i hi hn
  refine (k.block i (Nat.lt_of_lt_of_le hi h.size) fun hk=>hn ⟨hk.1,?_⟩).trans e
  obtain⟨_,cs,t,fr,h1,h2⟩:=hk
  exact⟨cs,t,fr,e.symm.trans h1,h2⟩⟩
theorem MT.mono (h:MT B Ts a b) (hs:∀ t∈Ts,t∈Ts') (hB:B'<=B):MT B' Ts' a b :=
 Mod.mono h fun _ _ ⟨h1,cs,t,fr,h2,h3⟩=>⟨Nat.le_trans hB h1,cs,t,fr,h2,hs t h3⟩
theorem MT.wide (h:MT B Ts a b) (hs:∀ t∈Ts,t∈Ts'):MT B Ts' a b:=h.mono hs (Nat.le_refl _)
theorem MT.ofBelow (h:Below w.heap.size w w'):MT B Ts w w':=Mod.ofBelow h
theorem MT.below (h:MT B Ts w w') (hB:B<=w.heap.size):Below B w w':=Mod.below h hB (fun _ h=>h.1)
theorem MT.size (h:MT B Ts w w'):w.heap.size<=w'.heap.size:=Mod.size h
theorem MT.drew (h:MT B Ts a w):MT B Ts a w.drew:=Mod.drew h
theorem MT.alloc (h:MT B Ts a w) (o:Obj):MT B Ts a (w.alloc o):=Mod.alloc h o
theorem MT.plusBelow (h:MT B Ts a w) (k:Below w.heap.size w w'):MT B Ts a w':=h.trans (MT.ofBelow k)
theorem Blk.mt {g:Nat} {t:TypeId} {cs:Array Value} (h:Blk w g t cs) (hm:MT B Ts w w') (ht:t ∉ Ts):Blk w' g t cs :=
 Blk.mod h hm fun⟨_,cs',t',fr,h1,h2⟩=>by
  unfold Blk at h
  rw[h] at h1
  injection h1 with h1
  injection h1 with _ e _
  exact ht (e ▸ h2)
theorem MT.ownsRow (hm:MT B Ts w w') {base:Nat} {e:TypeId} {size:Nat} {v:Value} {n:Nat} {xs:List Value} (ho:w.ownsRow base e size v n xs) (he:e ∉ Ts):w'.ownsRow base e size v n xs:=by
 refine⟨ho.1,?_⟩
 rcases ho.2 with h2 | ⟨g,cap,cur,rfl,hb,hg,rest⟩
 ·exact .inl h2
 ·exact .inr ⟨g,cap,cur,rfl,hb,Blk.mt (show Blk w g e cur from hg) hm he,rest⟩
theorem MT.ofMod {r:Nat} {t:TypeId} {cs:Array Value} (hm:Mod (fun k=>k=r) w w') (hb:Blk w r t cs) (ht:t∈Ts) (hB:B<=r):MT B Ts w w' :=
 Mod.mono hm fun k _ e=>by subst e;exact⟨hB,cs,t,(0,0),hb,ht⟩
theorem MT.setCell {g i:Nat} {t:TypeId} {cs:Array Value} (h:MT B Ts a w) (hb:Blk w g t cs) (ht:t∈Ts) (hB:B<=g) (u:Value):MT B Ts a (w.setCell ⟨g,i,none⟩ u) :=
 h.trans (MT.ofMod ((Mod.refl (fun k=>k=g) w).setCell (p:=⟨g,i,none⟩) (fun _=>rfl) u) hb ht hB)
theorem MT.grown {base:Nat} {e:TypeId} {size:Nat} {v:Value} {n:Nat} {xs:List Value} (h:MT B Ts a w) (hg:w.grownBy w' v.ownBlock) (ho:w.ownsRow base e size v n xs) (he:e∈Ts) (hB:B<=base):MT B Ts a w':=by
 refine h.trans ?_
 refine⟨hg.os,hg.tape,hg.output,hg.size,fun i hi hn=>hg.block i hi fun e'=>?_⟩
 rcases ho.2 with ⟨rfl,_⟩ | ⟨g,cap,cur,rfl,hb,hh,_⟩
 ·simp [Value.ownBlock] at e'
 ·simp [Value.ownBlock] at e'
  subst e'
  exact hn ⟨Nat.le_trans hB hb,cur,_,(0,0),hh,he⟩
theorem MT.own {b:Nat} (h:MT B Ts a w) (hm:Mod (fun k=>k=b) w w') (hb:a.heap.size<=b):MT B Ts a w' :=
 Mod.trans h hm fun i hi e=>by omega
end
def Ended:List Tok->Prop
 | []=>False
 | t::r=>if t.k=0 then r=[] else Ended r
theorem Ended.cons {t:Tok} {r:List Tok} (h:Ended (t::r)) (hk:t.k≠0):Ended r:=by
 unfold Ended at h
 rwa [if_neg hk] at h
theorem Ended.some {c:List Tok} (h:Ended c):∃ t r,c=t::r:=by
 cases c with
 | nil=>exact h.elim
 | cons t r=>exact⟨t,r,rfl⟩
def Rs (w:World) (r:Nat) (c:List Tok) (vt:Value):Prop:=∃ ts i,Rd w r ts i vt/\ts.drop i=c/\Ended c
section
variable {w w' : World} {r : Nat} {c : List Tok} {vt : Value}
theorem Rs.keep (h:Rs w r c vt) (hb:Below w.heap.size w w'):Rs w' r c vt:=by
 obtain⟨ts,i,h1,h2,h3⟩:=h
 exact⟨ts,i,h1.keep hb,h2,h3⟩
theorem Rs.mt {B:Nat} {Ts:List TypeId} (h:Rs w r c vt) (hm:MT B Ts w w') (h1:213 ∉ Ts) (h2:122 ∉ Ts):Rs w' r c vt:=by
 obtain⟨ts,i,hr,h3,h4⟩:=h
 exact⟨ts,i,⟨hr.blk.mt hm h1,hm.ownsRow hr.row h2,hr.len⟩,h3,h4⟩
end
def PPost {α:Type} (R:α->List Tok->Value->World->Prop) (B:Nat) (Ts:List TypeId) (w:World):PR α->Ending->World->Prop
 | .bad a f,e,w'=>e=.panicked [{ v:=faultV a f,recovered:=false }]/\MT B Ts w w'
 | .ok x c,e,w'=>∃ v,e=.returned v/\R x c v w'/\MT B Ts w w'
theorem peek_rs {w:World} {r:Nat} {t:Tok} {c:List Tok} {vt:Value} (h:Rs w r (t::c) vt) :
 Calls Tryz.prog 55 #[.pointer (some ⟨r,0,none⟩)] w fun e w'=>e=.returned t.v/\Below w.heap.size w w':=by
 obtain⟨ts,i,h1,h2,_⟩:=h
 refine peek_any w r ts i vt h1 t ?_
 have:=congrArg (·[0]?) h2
 simpa using this
theorem is_rs {w:World} {r:Nat} {c:List Tok} {vt:Value} (h:Rs w r c vt) (m:List UInt8) :
 Calls Tryz.prog 146 #[.pointer (some ⟨r,0,none⟩),.string ⟨m.toArray⟩] w fun e w'=>e=.returned (.bool (isM m c))/\Below w.heap.size w w':=by
 obtain⟨ts,i,h1,h2,h3⟩:=h
 obtain⟨t,c',rfl⟩:=h3.some
 refine is_any w r ts i vt h1 t ?_ m
 have:=congrArg (·[0]?) h2
 simpa using this
theorem drop_succ_of {ts:List Tok} {i:Nat} {t:Tok} {c:List Tok} (h:ts.drop i=t::c):ts.drop (i+1)=c:=by
 rw[<-List.drop_drop,h]
 rfl
theorem take_rs {w:World} {r:Nat} {c:List Tok} {vt:Value} {B:Nat} {Ts:List TypeId} (h:Rs w r c vt) (kind:Int) (l:List (List UInt8)) (sv:Value) (hx:TX w sv l) (hB:B<=r) (hT:213∈Ts) :
 Calls Tryz.prog 57 #[.pointer (some ⟨r,0,none⟩),.int .i64 kind,sv] w
  (PPost (fun t c' v w'=>v=t.v/\Rs w' r c' vt) B Ts w (tk kind l c)):=by
 obtain⟨ts,i,h1,h2,h3⟩:=h
 obtain⟨t,c',rfl⟩:=h3.some
 have ht:ts[i]? = some t:=by
  have:=congrArg (·[0]?) h2
  simpa using this
 refine (take_any w r ts i vt h1 t ht kind l sv hx).mono ?_
 rintro e w' (⟨hf,rfl,hr,hm⟩ | ⟨hf,rfl,hb⟩)
 ·have hk:tk kind l (t::c')=.ok t (if kind=0 then t::c' else c'):=by
   unfold tk
   exact if_pos hf
  rw[hk]
  refine⟨_,rfl,⟨rfl,ts,nextI kind i,hr,?_,?_⟩,MT.ofMod hm h1.blk hT hB⟩
  ·unfold nextI
   split
   ·exact h2
   ·exact drop_succ_of h2
  ·split
   ·exact h3
   ·exact h3.cons (by rw[hf.1];assumption)
 ·have hk:tk kind l (t::c')=.bad t.p 80:=by
   unfold tk
   exact if_neg hf
  rw[hk]
  exact⟨rfl,MT.ofBelow hb⟩
theorem mark_rs {w:World} {r:Nat} {c:List Tok} {vt:Value} {B:Nat} {Ts:List TypeId} (h:Rs w r c vt) (m:List UInt8) (hB:B<=r) (hT:213∈Ts) :
 Calls Tryz.prog 133 #[.pointer (some ⟨r,0,none⟩),.string ⟨m.toArray⟩] w
  (PPost (fun t c' v w'=>v=t.v/\Rs w' r c' vt) B Ts w (tk 3 [m] c)):=by
 obtain⟨ts,i,h1,h2,h3⟩:=h
 obtain⟨t,c',rfl⟩:=h3.some
 have ht:ts[i]? = some t:=by
  have:=congrArg (·[0]?) h2
  simpa using this
 refine (mark_any w r ts i vt h1 t ht m).mono ?_
 rintro e w' (⟨hf,rfl,hr,hm⟩ | ⟨hf,rfl,hb⟩)
 ·have hk:tk 3 [m] (t::c')=.ok t c':=by
   unfold tk
   exact if_pos hf
  rw[hk]
  exact⟨_,rfl,⟨rfl,ts,i+1,hr,drop_succ_of h2,h3.cons (by rw[hf.1];decide)⟩,MT.ofMod hm h1.blk hT hB⟩
 ·have hk:tk 3 [m] (t::c')=.bad t.p 80:=by
   unfold tk
   exact if_neg hf
  rw[hk]
  exact⟨rfl,MT.ofBelow hb⟩
structure Trm where
 x:List UInt8
 k:Int
 n:Int
 t:List UInt8
deriving DecidableEq
structure Atm where
 rel:List UInt8
 ts:List Trm
deriving DecidableEq
structure Qry where
 name:List UInt8
 head:List (List UInt8)
 atoms:List Atm
deriving DecidableEq
section
variable {α β : Type} {R S : β -> α -> Prop}
def All2 (R:β->α->Prop):List β->List α->Prop
 | [],[]=>True
 | b::bs,a::al=>R b a/\All2 R bs al
 | _,_=>False
theorem All2.mono (hRS:∀ b a,R b a->S b a):∀ {bs:List β} {al:List α},All2 R bs al->All2 S bs al
 | [],[],_=>trivial
 | _::_,_::_,h=>⟨hRS _ _ h.1,All2.mono hRS h.2⟩
 | [],_::_,h=>h.elim
 | _::_,[],h=>h.elim
theorem All2.snoc {b:β} {a:α} (hb:R b a):∀ {bs:List β} {al:List α},All2 R bs al->All2 R (bs++[b]) (al++[a])
 | [],[],_=>⟨hb,trivial⟩
 | _::_,_::_,h=>⟨h.1,All2.snoc hb h.2⟩
 | [],_::_,h=>h.elim
 | _::_,[],h=>h.elim
theorem All2.length:∀ {bs:List β} {al:List α},All2 R bs al->bs.length=al.length
 | [],[],_=>rfl
 | _::_,_::_,h=>congrArg Nat.succ h.2.length
 | [],_::_,h=>h.elim
 | _::_,[],h=>h.elim
theorem All2.get:∀ {bs:List β} {al:List α},All2 R bs al->∀ {i:Nat} {a:α},al[i]? = some a->∃ b,bs[i]? = some b/\R b a
 | [],[],_,i,a,h=>by simp at h
 | b::_,_::_,h,0,a,e=>by simp at e;subst e;exact⟨b,rfl,h.1⟩
 | _::_,_::_,h,i+1,a,e=>by
   obtain⟨b,h1,h2⟩:=h.2.get (i:=i) (a:=a) (by simpa using e)
   exact⟨b,by simpa using h1,h2⟩
 | [],_::_,h,_,_,_=>h.elim
 | _::_,[],h,_,_,_=>h.elim
end
section
variable {α : Type}
theorem len2 {cs:List Value} (h:cs.length=2):∃ a b,cs=[a,b]:=by
 match cs,h with
 | [a,b],_=>exact⟨a,b,rfl⟩
theorem len3 {cs:List Value} (h:cs.length=3):∃ a b c,cs=[a,b,c]:=by
 match cs,h with
 | [a,b,c],_=>exact⟨a,b,c,rfl⟩
theorem len4 {cs:List Value} (h:cs.length=4):∃ a b c d,cs=[a,b,c,d]:=by
 match cs,h with
 | [a,b,c,d],_=>exact⟨a,b,c,d,rfl⟩
theorem own_sl {w:World} {base:Nat} {e:TypeId} {size n:Nat} {v:Value} {xs:List Value} (h:w.ownsRow base e size v n xs):∃ (a:Option Addr) (cap:Nat),v=.slice a n cap:=by
 rcases h.2 with ⟨rfl,rfl⟩ | ⟨g,cap,cur,rfl,_⟩
 ·exact⟨none,0,rfl⟩
 ·exact⟨_,cap,rfl⟩
theorem World.ownsRow.low {w:World} {base base':Nat} {e:TypeId} {size n:Nat} {v:Value} {xs:List Value} (h:w.ownsRow base e size v n xs) (hb:base'<=base):w.ownsRow base' e size v n xs:=by
 refine⟨h.1,?_⟩
 rcases h.2 with h2 | ⟨g,cap,cur,h1,h2,h3⟩
 ·exact .inl h2
 ·exact .inr ⟨g,cap,cur,h1,Nat.le_trans hb h2,h3⟩
end
end Go.Proofs.YtgopfpjinohncaaGreatDoor
