/- Reading through a line's tokens, plainly. The reader, walked: Peek, Is. The reader, walked: Take. The reader, walked: Mark. reader.Caught, walked. Worlds that differ in blocks of some types alone: no program in sight. The reader by what is left to read: Peek, Is, Take, Mark. Reading a list, plainly: step by step. Reading a query's tokens, plainly. Two lists side by side; what a step of a list reader leaves. How long the lists are that were read, plainly. -/
import Derived.Test.YtamjadghncnbcaaGreatDoorLaT
import Derived.WalkSpells
import Derived.WalkLawsBesides
import Derived.Deep.QuietTactic
import Derived.BigQuiet
import Derived.Lib.Hide
import Derived.Deep.AppendLies
import Derived.Deep.RegionLaw
import Derived.Laws.OwnMore
namespace Go.Proofs.YtamjadghncnbcaaGreatDoor
open Go.RowKit
set_option linter.unusedVariables false
inductive PR (α:Type) where
 | bad (at_ e:Int)
 | ok (x:α) (ts:List Tok)
def tk (k:Int) (xs:List (List UInt8)):List Tok->PR Tok
 | []=>.bad 0 0
 | t::r=>if t.k=k/\(xs=[]∨t.x∈xs) then .ok t (if k=0 then t::r else r) else .bad t.p 80
def isM (m:List UInt8):List Tok->Bool
 | []=>false
 | t::_=>decide (t.k=3/\t.x=m)
def moreP {α:Type} (one:List Tok->PR α):Nat->List Tok->PR (List α)
 | 0,ts=>.ok [] ts
 | f+1,ts =>
   if isM [44] ts=true then
    match one (ts.drop 1) with
    | .bad a e=>.bad a e
    | .ok x ts1 =>
      match moreP one f ts1 with
      | .bad a e=>.bad a e
      | .ok xs ts2=>.ok (x::xs) ts2
   else .ok [] ts
def someP {α:Type} (one:List Tok->PR α) (ts:List Tok):PR (List α) :=
 match one ts with
 | .bad a e=>.bad a e
 | .ok x ts1 =>
   match moreP one ts1.length ts1 with
   | .bad a e=>.bad a e
   | .ok xs ts2=>.ok (x::xs) ts2
def listP {α:Type} (one:List Tok->PR α) (ts:List Tok):PR (List α) :=
 match tk 3 [[40]] ts with
 | .bad a e=>.bad a e
 | .ok _ ts1 =>
   match (if isM [41] ts1=true then .ok [] ts1 else someP one ts1) with
   | .bad a e=>.bad a e
   | .ok xs ts2 =>
     match tk 3 [[41]] ts2 with
     | .bad a e=>.bad a e
     | .ok _ ts3=>.ok xs ts3
structure Rd (w:World) (r:Nat) (ts:List Tok) (i:Nat) (vt:Value):Prop where
 blk:Blk w r 177 #[vt,.int .i64 i]
 row:w.ownsRow 0 84 6 vt ts.length (tcells ts)
 len:ts.length<=100000
theorem Rd.keep {w w':World} {r:Nat} {ts:List Tok} {i:Nat} {vt:Value} (h:Rd w r ts i vt) (hb:Below w.heap.size w w'):Rd w' r ts i vt :=
 have hm:Mod (fun _=>False) w w':=Mod.ofBelow hb
 ⟨h.blk.mod hm (fun f=>f),hm.ownsRow h.row (fun _ _ f=>f),h.len⟩
theorem Rd.at {w:World} {r:Nat} {ts:List Tok} {i:Nat} {vt:Value} (h:Rd w r ts i vt) {j:Nat} {t:Tok} (ht:ts[j]? = some t):∃ g cap,vt=.slice (some ⟨g,0,none⟩) ts.length cap/\ts.length<=cap/\cap<=maxLen/\g<w.heap.size /\
 w.cell? ⟨g,j * 6,none⟩=some (.int .i64 t.k)/\w.cell? ⟨g,j * 6+1,none⟩=some (.string ⟨t.x.toArray⟩)/\w.cell? ⟨g,j * 6+2,none⟩=some (.int .i64 t.vk)/\w.cell? ⟨g,j * 6+3,none⟩=some (.int .i64 t.vn)/\w.cell? ⟨g,j * 6+4,none⟩=some (.string ⟨t.vt.toArray⟩)/\w.cell? ⟨g,j * 6+5,none⟩=some (.int .i64 t.p):=by
 have hs:=h.row
 have hl:j<ts.length:=(List.getElem?_eq_some_iff.1 ht).1
 have hln:=tcells_len ts
 rcases hs.2 with ⟨_,h0⟩ | ⟨g,cap,cur,rfl,_,hg,hnc,hcm,_⟩
 ·omega
 ·obtain⟨h0,h1,h2,h3,h4,h5⟩:=tcells_at ts j t ht
  exact⟨g,cap,rfl,hnc,hcm,(Array.getElem?_eq_some_iff.1 hg).1,(hs.cellAt _ (by omega)).trans h0,(hs.cellAt _ (by omega)).trans h1,(hs.cellAt _ (by omega)).trans h2,(hs.cellAt _ (by omega)).trans h3,(hs.cellAt _ (by omega)).trans h4,(hs.cellAt _ (by omega)).trans h5⟩
set_option maxHeartbeats 4000000 in
set_option maxRecDepth 100000 in
theorem peek_any (w:World) (r:Nat) (ts:List Tok) (i:Nat) (vt:Value) (h:Rd w r ts i vt) (t:Tok) (ht:ts[i]? = some t) :
 Calls Tryz.prog 41 #[.pointer (some ⟨r,0,none⟩)] w fun e w'=>e=.returned t.v/\Below w.heap.size w w':=by
 obtain⟨g,cap,rfl,hnc,hcm,hg,k0,k1,k2,k3,k4,k5⟩:=h.at ht
 have hl:i<ts.length:=(List.getElem?_eq_some_iff.1 ht).1
 have x0:=h.blk.cell 0
 have x1:=h.blk.cell 1
 simp at x0 x1
 have hr:=h.blk.lt
 have hlen:=h.len
 unfold maxLen at hcm
 have hd:decide ((i:Int)<0)=false:=by simp
 have hd2:decide ((ts.length:Int)<=(i:Int))=false:=by simp;omega
 have hd3:decide (ts.length<=i)=false:=by simp;omega
 unfold Tok.v
 clear h ht
 go_enter Tryz.func41,Tryz.ntmps41
 go_wp2_with fail
 go_region
 all_goals
  go_wp2_with fail
  refine bodyPost_ret (v:=t.v) (by simp [results,Tryz.results41,go_sem,Tok.v]) rfl ⟨rfl,?_⟩
  exact bdrew (balloc (Below.refl _ _) _)
def TX (w:World) (sv:Value) (l:List (List UInt8)):Prop :=
 l.length<=1000/\∃ (ad:Option Addr) (cap:Nat),sv=.slice ad l.length cap/\(l=[]∨∃ b off:Nat,ad=some ⟨b,off,none⟩/\b<w.heap.size/\∀ (j:Nat) (s:List UInt8),l[j]? = some s->w.cell? ⟨b,off+j,none⟩=some (.string ⟨s.toArray⟩))
theorem TX.keep {w w':World} {sv:Value} {l:List (List UInt8)} (h:TX w sv l) (hb:Below w.heap.size w w'):TX w' sv l:=by
 obtain⟨h1,ad,cap,rfl,h2⟩:=h
 refine⟨h1,ad,cap,rfl,?_⟩
 rcases h2 with h2 | ⟨b,off,rfl,h3,h4⟩
 ·exact .inl h2
 ·exact .inr ⟨b,off,rfl,Nat.lt_of_lt_of_le h3 hb.size,fun j s hj=>(hb.cell (p:=⟨b,off+j,none⟩) h3).trans (h4 j s hj)⟩
def nextI (kind:Int) (i:Nat):Nat:=if kind=0 then i else i+1
def fits (t:Tok) (k:Int) (l:List (List UInt8)):Prop:=t.k=k/\(l=[]∨t.x∈l)
theorem bytes_eq {a b:List UInt8}:((⟨a.toArray⟩:ByteArray)=⟨b.toArray⟩) ↔ a=b:=by
 constructor
 ·intro e;simpa using e
 ·rintro rfl;rfl
def goodT (t:Tok) (k:Int) (l:List (List UInt8)) (j:Nat):Bool:=decide (t.k=k) && (l.isEmpty || (l.take j).contains t.x)
theorem goodT_fits (t:Tok) (k:Int) (l:List (List UInt8)):goodT t k l l.length=true ↔ fits t k l:=by
 unfold goodT fits
 rw[List.take_length]
 simp [List.isEmpty_iff]
theorem goodT_step {t:Tok} {k:Int} {l:List (List UInt8)} {j:Nat} {s:List UInt8} (hj:l[j]? = some s):goodT t k l (j+1)=(goodT t k l j || (decide (t.k=k) && decide (t.x=s))):=by
 have hl:j<l.length:=(List.getElem?_eq_some_iff.1 hj).1
 have hs:l[j]=s:=(List.getElem?_eq_some_iff.1 hj).2
 unfold goodT
 rw[List.take_add_one,hj]
 simp only[Option.toList_some,List.contains_append]
 cases decide (t.k=k)<;>simp [Bool.or_assoc]
set_option maxHeartbeats 8000000 in
set_option maxRecDepth 100000 in
theorem take_any (w:World) (r:Nat) (ts:List Tok) (i:Nat) (vt:Value) (h:Rd w r ts i vt) (t:Tok) (ht:ts[i]? = some t) (kind:Int) (l:List (List UInt8)) (sv:Value) (hx:TX w sv l) :
 Calls Tryz.prog 43 #[.pointer (some ⟨r,0,none⟩),.int .i64 kind,sv] w fun e w' =>
  (fits t kind l/\e=.returned t.v/\Rd w' r ts (nextI kind i) vt/\Mod (fun k=>k=r) w w') ∨
  (¬ fits t kind l/\e=.panicked [{ v:=.iface 88 (.agg #[.int .i64 t.p,.int .i64 80]),recovered:=false }]/\Below w.heap.size w w'):=by
 have HP:=Lib.hid (fun W (hW:Rd W r ts i vt)=>peek_any W r ts i vt hW t ht)
 have hil:i<ts.length:=(List.getElem?_eq_some_iff.1 ht).1
 have hlen:=h.len
 have HX:=Lib.hid hx
 obtain⟨hl1,ad,cap,rfl,htx⟩:=hx
 have HTX:=Lib.hid htx
 have H:=Lib.hid h
 have hr:=h.blk.lt
 clear h ht htx
 have hb0:Below w.heap.size w (w.alloc (.cells #[.int .i64 0,.string ⟨#[]⟩,.int .i64 0,.int .i64 0,.string ⟨#[]⟩,.int .i64 0] 84)):=balloc (Below.refl _ _) _
 have HB0:=Lib.hid hb0
 clear hb0
 go_enter Tryz.func43,Tryz.ntmps43
 go_wp2_with fail
 refine (HP.out _ (H.out.keep HB0.out)).mono ?_
 rintro e w1 ⟨rfl,hb⟩
 have HB:=Lib.hid (HB0.out.trans (hb.mono (by simp)))
 have hz1:=hb.size
 have z0:=(Blk.new w 84 #[.int .i64 0,.string ⟨#[]⟩,.int .i64 0,.int .i64 0,.string ⟨#[]⟩,.int .i64 0]).below hb (by simp)
 simp at hz1
 have hz2:w.heap.size<w1.heap.size:=by omega
 have Z0:=Lib.hid z0
 clear hb z0 hz1
 have hg0:goodT t kind l 0=(decide (t.k=kind) && decide (l.length=0)):=by
  unfold goodT
  cases l<;>simp
 have HG0:=Lib.hid hg0
 clear hg0
 obtain⟨W2,hW2⟩:∃ W2,W2=w1.alloc (.cells #[.int .i64 t.k,.string ⟨t.x.toArray⟩,.int .i64 t.vk,.int .i64 t.vn,.string ⟨t.vt.toArray⟩,.int .i64 t.p] 84):=⟨_,rfl⟩
 have hB2:Below w.heap.size w W2:=by rw[hW2];exact balloc HB.out _
 have tb:Blk W2 w1.heap.size 84 #[.int .i64 t.k,.string ⟨t.x.toArray⟩,.int .i64 t.vk,.int .i64 t.vn,.string ⟨t.vt.toArray⟩,.int .i64 t.p]:=by rw[hW2];exact Blk.new _ _ _
 have zb:Blk W2 w.heap.size 84 #[.int .i64 0,.string ⟨#[]⟩,.int .i64 0,.int .i64 0,.string ⟨#[]⟩,.int .i64 0]:=by rw[hW2];exact Z0.out.alloc _
 have HB2:=Lib.hid hB2
 have TB:=Lib.hid tb
 have ZB:=Lib.hid zb
 have t0:=tb.cell 0
 have t1:=tb.cell 1
 have t2:=tb.cell 2
 have t3:=tb.cell 3
 have t4:=tb.cell 4
 have t5:=tb.cell 5
 simp at t0 t1 t2 t3 t4 t5
 have HT:=Lib.hid (show w1.heap.size<W2.heap.size from tb.lt)
 have HW2:=Lib.hid hW2
 clear hB2 tb zb hW2
 unfold Tok.v
 by_cases hk:t.k=kind
 ·have q1:(t.k == kind)=true:=by simpa using hk
  subst hk
  have rd2:=H.out.keep HB2.out
  have x1:=rd2.blk.cell 1
  have y1:=rd2.blk.frozen 1
  simp at x1
  have hr2:=rd2.blk.lt
  have hrz:r≠w.heap.size:=by omega
  have hrt:r≠w1.heap.size:=by omega
  have hzt:w.heap.size≠w1.heap.size:=by omega
  have RD2:=Lib.hid rd2
  clear rd2
  have hcase:∀ Q:World->Prop,True:=fun _=>trivial
  clear hcase
  have hlz:decide (l.length=0)=true∨decide (l.length=0)=false:=by cases decide (l.length=0)<;>simp
  rcases hlz with hlz | hlz
  all_goals
   have hlz2:(((l.length:Nat):Int) == 0)=decide (l.length=0):=by
    by_cases h:l.length=0<;>simp [h]
   rw[hlz] at hlz2
   go_wp2_with fail
   rw[<-HW2.out]
   go_loopw [24,8] (fun ix gd wr=>∃ j:Nat,j<=l.length/\ix=.int .i64 j/\gd=.bool (goodT t t.k l j)/\wr=W2) (fun ix _ _=>l.length - (intOf ix).toNat)
   case atStart=>exact⟨0,Nat.zero_le _,rfl,by rw[HG0.out,hlz];simp,rfl⟩
   case round =>
    obtain⟨j,hj,rfl,rfl,hwr⟩:=hrel
    subst hwr
    by_cases hlt:j<l.length
    ·obtain⟨s,hs⟩:∃ s,l[j]? = some s:=⟨l[j],List.getElem?_eq_getElem hlt⟩
     have hstep:=goodT_step (t:=t) (k:=t.k) hs
     rcases HTX.out with h0 | ⟨b,off,rfl,hb,hcs⟩
     ·subst h0;simp at hlt
     have cs:=(HB2.out.cell (p:=⟨b,off+j,none⟩) hb).trans (hcs j s hs)
     have HST:=Lib.hid hstep
     clear hstep hcs hs
     cases hgd:goodT t t.k l j with
     | true =>
       have HGD:=Lib.hid hgd
       clear hgd
       go_wp2_with fail
       go_roundw
       case rel=>exact⟨j+1,by omega,by simp,by rw[HST.out,HGD.out];simp,trivial⟩
       case measure=>simp [intOf];omega
     | false =>
       have HGD:=Lib.hid hgd
       clear hgd
       go_wp2_with fail
       go_roundw
       case rel=>exact⟨j+1,by omega,by simp,by rw[HST.out,HGD.out];by_cases he:t.x=s<;>simp [he],trivial⟩
       case measure=>simp [intOf];omega
    ·obtain rfl:j=l.length:=by omega
     cases hgd:goodT t t.k l l.length with
     | false =>
       have hnf:¬ fits t t.k l:=fun hf=>by have:=(goodT_fits t t.k l).2 hf;rw[hgd] at this;cases this
       have HNF:=Lib.hid hnf
       clear hgd hnf
       go_wp2_with fail
       exact⟨rfl,.inr ⟨HNF.out,rfl,HB2.out⟩⟩
     | true =>
       have HFI:=Lib.hid ((goodT_fits t t.k l).1 hgd)
       clear hgd
       by_cases h0:t.k=0
       ·have q2:(t.k != 0)=false:=by simpa using h0
        have hni:nextI t.k i=i:=by unfold nextI;rw[if_pos h0]
        have HNI:=Lib.hid hni
        clear h0 hni
        go_wp2_with (refine wpList_store_blk rfl 84 _ _ rfl w.heap.size 84 _ _ rfl rfl ZB.out (by kernel_rfl) rfl (by simp [Value.oneCell']) ?_)
        intro w2 hb2 hm2 hz2
        have r0:=hb2.cell 0
        have r1:=hb2.cell 1
        have r2:=hb2.cell 2
        have r3:=hb2.cell 3
        have r4:=hb2.cell 4
        have r5:=hb2.cell 5
        simp only[List.getElem?_toArray,List.getElem?_cons_zero,List.getElem?_cons_succ] at r0 r1 r2 r3 r4 r5
        have HF2:=Lib.hid (Mod.own HB2.out hm2 (Nat.le_refl _))
        clear hb2 hm2 hz2
        go_wp2_with fail
        refine bodyPost_ret (v:=t.v) (by simp [results,Tryz.results43,go_sem,Tok.v, *]) rfl (.inl ⟨HFI.out,rfl,by rw[HNI.out];exact H.out.keep HF2.out,Mod.ofBelow HF2.out⟩)
       ·have q2:(t.k != 0)=true:=by simpa using h0
        have hni:nextI t.k i=i+1:=by unfold nextI;rw[if_neg h0]
        have HNI:=Lib.hid hni
        clear h0 hni
        go_wp2_with (refine wpList_store_blk rfl 84 _ _ rfl w.heap.size 84 _ _ rfl rfl (ZB.out.far (p:=⟨r,1,none⟩) (fun e=>hrz e.symm) _) (by kernel_rfl) rfl (by simp [Value.oneCell']) ?_)
        intro w2 hb2 hm2 hz2
        have r0:=hb2.cell 0
        have r1:=hb2.cell 1
        have r2:=hb2.cell 2
        have r3:=hb2.cell 3
        have r4:=hb2.cell 4
        have r5:=hb2.cell 5
        simp only[List.getElem?_toArray,List.getElem?_cons_zero,List.getElem?_cons_succ] at r0 r1 r2 r3 r4 r5
        have hMA:Mod (fun k=>k=r) w w2:=((Mod.ofBelow (F:=fun k=>k=r) HB2.out).setCell (p:=⟨r,1,none⟩) (fun _=>rfl) (.int .i64 ((i:Int)+1))).trans hm2 (fun k hk e=>by omega)
        have hbl:=(RD2.out.blk.set_ 1 (.int .i64 ((i:Int)+1))).mod hm2 hrz
        have hne:=own_blk_ne H.out.row H.out.blk (by decide)
        have hrd:Rd w2 r ts (i+1) vt:=⟨by simpa using hbl,hMA.ownsRow H.out.row (fun k hk e=>hne (by rw[hk,e])),H.out.len⟩
        have HRD:=Lib.hid hrd
        have HMA:=Lib.hid hMA
        clear hb2 hm2 hz2 hMA hbl hne hrd
        go_wp2_with fail
        refine bodyPost_ret (v:=t.v) (by simp [results,Tryz.results43,go_sem,Tok.v, *]) rfl (.inl ⟨HFI.out,rfl,by rw[HNI.out];exact HRD.out,HMA.out⟩)
 ·have q1:(t.k == kind)=false:=by simpa using hk
  go_wp2_with fail
  rw[<-HW2.out]
  go_loopw [24,8] (fun ix gd wr=>∃ j:Nat,j<=l.length/\ix=.int .i64 j/\gd=.bool (goodT t kind l j)/\wr=W2) (fun ix _ _=>l.length - (intOf ix).toNat)
  case atStart=>exact⟨0,Nat.zero_le _,rfl,by rw[HG0.out];simp [hk],rfl⟩
  case round =>
   obtain⟨j,hj,rfl,rfl,hwr⟩:=hrel
   subst hwr
   by_cases hlt:j<l.length
   ·obtain⟨s,hs⟩:∃ s,l[j]? = some s:=⟨l[j],List.getElem?_eq_getElem hlt⟩
    have hstep:=goodT_step (t:=t) (k:=kind) hs
    rcases HTX.out with h0 | ⟨b,off,rfl,hb,hcs⟩
    ·subst h0;simp at hlt
    have cs:=(HB2.out.cell (p:=⟨b,off+j,none⟩) hb).trans (hcs j s hs)
    have HST:=Lib.hid hstep
    clear hstep hcs hs
    cases hgd:goodT t kind l j with
    | true =>
      have HGD:=Lib.hid hgd
      clear hgd
      go_wp2_with fail
      go_roundw
      case rel=>exact⟨j+1,by omega,by simp,by rw[HST.out,HGD.out];simp,trivial⟩
      case measure=>simp [intOf];omega
    | false =>
      have HGD:=Lib.hid hgd
      clear hgd
      go_wp2_with fail
      go_roundw
      case rel=>exact⟨j+1,by omega,by simp,by rw[HST.out,HGD.out];simp [hk],trivial⟩
      case measure=>simp [intOf];omega
   ·obtain rfl:j=l.length:=by omega
    have hgf:goodT t kind l l.length=false:=by
     cases hgd:goodT t kind l l.length with
     | false=>rfl
     | true=>exact absurd ((goodT_fits t kind l).1 hgd).1 hk
    rw[hgf]
    have hnf:¬ fits t kind l:=fun hf=>hk hf.1
    have HNF:=Lib.hid hnf
    clear hgf hnf
    go_wp2_with fail
    exact⟨rfl,.inr ⟨HNF.out,rfl,HB2.out⟩⟩
def faultV (at_ e:Int):Value:=.iface 88 (.agg #[.int .i64 at_,.int .i64 e])
set_option maxHeartbeats 2000000 in
set_option maxRecDepth 100000 in
theorem caught_nil (p q:Addr) (w:World):Calls Tryz.prog 39 #[.nilIface,.pointer (some p),.pointer (some q)] w fun e w'=>e=.returned (.bool false)/\w'=w:=by
 go_enter Tryz.func39,Tryz.ntmps39
 go_wp2_with fail
 go_ret
 exact⟨rfl,rfl⟩
theorem assert_fault (W:World) (v:Value):(Instr.typeAssert (.iface 88 v) 20 88 true).run Tryz.prog W=.ok (.tuple #[v,.bool true]) W:=by kernel_rfl
set_option maxHeartbeats 2000000 in
set_option maxRecDepth 100000 in
theorem caught_fault (a e:Int) (g h:Nat) (x y:Value) (w:World) (hg:w.cell? ⟨g,0,none⟩=some x) (hh:w.cell? ⟨h,0,none⟩=some y) (fg:w.frozen? ⟨g,0,none⟩=false) (fh:w.frozen? ⟨h,0,none⟩=false) (hne:g≠h) :
 Calls Tryz.prog 39 #[faultV a e,.pointer (some ⟨g,0,none⟩),.pointer (some ⟨h,0,none⟩)] w fun x w'=>x=.returned (.bool true)/\w'=(((w.setCell ⟨g,0,none⟩ (.int .i64 a)).setCell ⟨h,0,none⟩ (.int .i64 e)).alloc (.cells #[.int .i64 a,.int .i64 e] 88)).drew:=by
 unfold faultV
 have hta:=assert_fault
 have hgl:=World.block_lt_of_cell? w _ hg
 have hhl:=World.block_lt_of_cell? w _ hh
 simp at hgl hhl
 have hne2:h≠g:=fun e=>hne e.symm
 go_enter Tryz.func39,Tryz.ntmps39
 go_wp2_with fail
 go_region
 all_goals
  go_wp2_with fail
  go_ret
  exact⟨rfl,rfl⟩
end Go.Proofs.YtamjadghncnbcaaGreatDoor
namespace Go.Proofs.YtamjadghncnbcaaGreatDoor
open Go.RowKit
def tyIn (w:World) (Ts:List TypeId) (k:Nat):Prop:=∃ cs t fr,w.heap[k]? = some (.cells cs t fr)/\t∈Ts
def MT (B:Nat) (Ts:List TypeId) (w w':World):Prop:=Mod (fun k=>B<=k/\tyIn w Ts k) w w'
section
variable {B B' : Nat} {Ts Ts' : List TypeId} {a b c w w' : World}
theorem MT.refl (w:World):MT B Ts w w:=Mod.refl _ w
theorem MT.trans (h:MT B Ts a b) (k:MT B Ts b c):MT B Ts a c :=
 ⟨k.os.trans h.os,k.tape.trans h.tape,k.output.trans h.output,Nat.le_trans h.size k.size,fun i hi hn=>by
  have e:=h.block i hi hn
  refine (k.block i (Nat.lt_of_lt_of_le hi h.size) fun hk=>hn ⟨hk.1,?_⟩).trans e
  obtain⟨_,cs,t,fr,h1,h2⟩:=hk
  exact⟨cs,t,fr,e.symm.trans h1,h2⟩⟩
theorem MT.mono (h:MT B Ts a b) (hs:∀ t∈Ts,t∈Ts') (hB:B'<=B):MT B' Ts' a b :=
 Mod.mono h fun _ _ ⟨h1,cs,t,fr,h2,h3⟩=>⟨Nat.le_trans hB h1,cs,t,fr,h2,hs t h3⟩
theorem MT.wide (h:MT B Ts a b) (hs:∀ t∈Ts,t∈Ts'):MT B Ts' a b:=h.mono hs (Nat.le_refl _)
theorem MT.ofBelow (h:Below w.heap.size w w'):MT B Ts w w':=Mod.ofBelow h
theorem MT.below (h:MT B Ts w w') (hB:B<=w.heap.size):Below B w w':=Mod.below h hB (fun _ h=>h.1)
theorem MT.size (h:MT B Ts w w'):w.heap.size<=w'.heap.size:=Mod.size h
theorem MT.drew (h:MT B Ts a w):MT B Ts a w.drew:=Mod.drew h
theorem MT.drewN (h:MT B Ts a w) (n:Nat):MT B Ts a (w.drewN n):=Mod.drewN h n
theorem MT.alloc (h:MT B Ts a w) (o:Obj):MT B Ts a (w.alloc o):=Mod.alloc h o
theorem MT.plusBelow (h:MT B Ts a w) (k:Below w.heap.size w w'):MT B Ts a w':=h.trans (MT.ofBelow k)
theorem Blk.mt {g:Nat} {t:TypeId} {cs:Array Value} (h:Blk w g t cs) (hm:MT B Ts w w') (ht:t ∉ Ts):Blk w' g t cs :=
 Blk.mod h hm fun⟨_,cs',t',fr,h1,h2⟩=>by
  unfold Blk at h
  rw[h] at h1
  injection h1 with h1
  injection h1 with _ e _
  exact ht (e ▸ h2)
theorem MT.ownsRow (hm:MT B Ts w w') {base:Nat} {e:TypeId} {size:Nat} {v:Value} {n:Nat} {xs:List Value} (ho:w.ownsRow base e size v n xs) (he:e ∉ Ts):w'.ownsRow base e size v n xs:=by
 refine⟨ho.1,?_⟩
 rcases ho.2 with h2 | ⟨g,cap,cur,rfl,hb,hg,rest⟩
 ·exact .inl h2
 ·exact .inr ⟨g,cap,cur,rfl,hb,Blk.mt (show Blk w g e cur from hg) hm he,rest⟩
theorem MT.ofMod {r:Nat} {t:TypeId} {cs:Array Value} (hm:Mod (fun k=>k=r) w w') (hb:Blk w r t cs) (ht:t∈Ts) (hB:B<=r):MT B Ts w w' :=
 Mod.mono hm fun k _ e=>by subst e;exact⟨hB,cs,t,(0,0),hb,ht⟩
theorem MT.setCell {g i:Nat} {t:TypeId} {cs:Array Value} (h:MT B Ts a w) (hb:Blk w g t cs) (ht:t∈Ts) (hB:B<=g) (u:Value):MT B Ts a (w.setCell ⟨g,i,none⟩ u) :=
 h.trans (MT.ofMod ((Mod.refl (fun k=>k=g) w).setCell (p:=⟨g,i,none⟩) (fun _=>rfl) u) hb ht hB)
theorem MT.grown {base:Nat} {e:TypeId} {size:Nat} {v:Value} {n:Nat} {xs:List Value} (h:MT B Ts a w) (hg:w.grownBy w' v.ownBlock) (ho:w.ownsRow base e size v n xs) (he:e∈Ts) (hB:B<=base):MT B Ts a w':=by
 refine h.trans ?_
 refine⟨hg.os,hg.tape,hg.output,hg.size,fun i hi hn=>hg.block i hi fun e'=>?_⟩
 rcases ho.2 with ⟨rfl,_⟩ | ⟨g,cap,cur,rfl,hb,hh,_⟩
 ·simp [Value.ownBlock] at e'
 ·simp [Value.ownBlock] at e'
  subst e'
  exact hn ⟨Nat.le_trans hB hb,cur,_,(0,0),hh,he⟩
theorem MT.own {b:Nat} (h:MT B Ts a w) (hm:Mod (fun k=>k=b) w w') (hb:a.heap.size<=b):MT B Ts a w' :=
 Mod.trans h hm fun i hi e=>by omega
end
def Ended:List Tok->Prop
 | []=>False
 | t::r=>if t.k=0 then r=[] else Ended r
theorem Ended.cons {t:Tok} {r:List Tok} (h:Ended (t::r)) (hk:t.k≠0):Ended r:=by
 unfold Ended at h
 rwa [if_neg hk] at h
theorem Ended.some {c:List Tok} (h:Ended c):∃ t r,c=t::r:=by
 cases c with
 | nil=>exact h.elim
 | cons t r=>exact⟨t,r,rfl⟩
def Rs (w:World) (r:Nat) (c:List Tok) (vt:Value):Prop:=∃ ts i,Rd w r ts i vt/\ts.drop i=c/\Ended c
section
variable {w w' : World} {r : Nat} {c : List Tok} {vt : Value}
theorem Rs.keep (h:Rs w r c vt) (hb:Below w.heap.size w w'):Rs w' r c vt:=by
 obtain⟨ts,i,h1,h2,h3⟩:=h
 exact⟨ts,i,h1.keep hb,h2,h3⟩
theorem Rs.mt {B:Nat} {Ts:List TypeId} (h:Rs w r c vt) (hm:MT B Ts w w') (h1:177 ∉ Ts) (h2:84 ∉ Ts):Rs w' r c vt:=by
 obtain⟨ts,i,hr,h3,h4⟩:=h
 exact⟨ts,i,⟨hr.blk.mt hm h1,hm.ownsRow hr.row h2,hr.len⟩,h3,h4⟩
theorem Rs.ended (h:Rs w r c vt):Ended c:=by
 obtain⟨_,_,_,_,h⟩:=h
 exact h
theorem Rs.blk (h:Rs w r c vt):∃ cs,Blk w r 177 cs:=by
 obtain⟨_,_,h,_⟩:=h
 exact⟨_,h.blk⟩
theorem Rs.lt (h:Rs w r c vt):r<w.heap.size:=by
 obtain⟨_,h⟩:=h.blk
 exact h.lt
theorem Rs.len (h:Rs w r c vt):c.length<=100000:=by
 obtain⟨ts,i,h1,h2,_⟩:=h
 have:=h1.len
 rw[<-h2,List.length_drop]
 omega
end
def PPost {α:Type} (R:α->List Tok->Value->World->Prop) (B:Nat) (Ts:List TypeId) (w:World):PR α->Ending->World->Prop
 | .bad a f,e,w'=>e=.panicked [{ v:=faultV a f,recovered:=false }]/\MT B Ts w w'
 | .ok x c,e,w'=>∃ v,e=.returned v/\R x c v w'/\MT B Ts w w'
theorem peek_rs {w:World} {r:Nat} {t:Tok} {c:List Tok} {vt:Value} (h:Rs w r (t::c) vt) :
 Calls Tryz.prog 41 #[.pointer (some ⟨r,0,none⟩)] w fun e w'=>e=.returned t.v/\Below w.heap.size w w':=by
 obtain⟨ts,i,h1,h2,_⟩:=h
 refine peek_any w r ts i vt h1 t ?_
 have:=congrArg (·[0]?) h2
 simpa using this
theorem drop_succ_of {ts:List Tok} {i:Nat} {t:Tok} {c:List Tok} (h:ts.drop i=t::c):ts.drop (i+1)=c:=by
 rw[<-List.drop_drop,h]
 rfl
theorem take_rs {w:World} {r:Nat} {c:List Tok} {vt:Value} {B:Nat} {Ts:List TypeId} (h:Rs w r c vt) (kind:Int) (l:List (List UInt8)) (sv:Value) (hx:TX w sv l) (hB:B<=r) (hT:177∈Ts) :
 Calls Tryz.prog 43 #[.pointer (some ⟨r,0,none⟩),.int .i64 kind,sv] w
  (PPost (fun t c' v w'=>v=t.v/\Rs w' r c' vt) B Ts w (tk kind l c)):=by
 obtain⟨ts,i,h1,h2,h3⟩:=h
 obtain⟨t,c',rfl⟩:=h3.some
 have ht:ts[i]? = some t:=by
  have:=congrArg (·[0]?) h2
  simpa using this
 refine (take_any w r ts i vt h1 t ht kind l sv hx).mono ?_
 rintro e w' (⟨hf,rfl,hr,hm⟩ | ⟨hf,rfl,hb⟩)
 ·have hk:tk kind l (t::c')=.ok t (if kind=0 then t::c' else c'):=by
   unfold tk
   exact if_pos hf
  rw[hk]
  refine⟨_,rfl,⟨rfl,ts,nextI kind i,hr,?_,?_⟩,MT.ofMod hm h1.blk hT hB⟩
  ·unfold nextI
   split
   ·exact h2
   ·exact drop_succ_of h2
  ·split
   ·exact h3
   ·exact h3.cons (by rw[hf.1];assumption)
 ·have hk:tk kind l (t::c')=.bad t.p 80:=by
   unfold tk
   exact if_neg hf
  rw[hk]
  exact⟨rfl,MT.ofBelow hb⟩
section
variable {α : Type}
end
structure Trm where
 x:List UInt8
 k:Int
 n:Int
 t:List UInt8
deriving DecidableEq
structure Atm where
 rel:List UInt8
 ts:List Trm
deriving DecidableEq
structure Qry where
 name:List UInt8
 head:List (List UInt8)
 atoms:List Atm
deriving DecidableEq
section
variable {α β : Type} {R S : β -> α -> Prop}
def All2 (R:β->α->Prop):List β->List α->Prop
 | [],[]=>True
 | b::bs,a::al=>R b a/\All2 R bs al
 | _,_=>False
theorem All2.mono (hRS:∀ b a,R b a->S b a):∀ {bs:List β} {al:List α},All2 R bs al->All2 S bs al
 | [],[],_=>trivial
 | _::_,_::_,h=>⟨hRS _ _ h.1,All2.mono hRS h.2⟩
 | [],_::_,h=>h.elim
 | _::_,[],h=>h.elim
theorem All2.snoc {b:β} {a:α} (hb:R b a):∀ {bs:List β} {al:List α},All2 R bs al->All2 R (bs++[b]) (al++[a])
 | [],[],_=>⟨hb,trivial⟩
 | _::_,_::_,h=>⟨h.1,All2.snoc hb h.2⟩
 | [],_::_,h=>h.elim
 | _::_,[],h=>h.elim
theorem All2.length:∀ {bs:List β} {al:List α},All2 R bs al->bs.length=al.length
 | [],[],_=>rfl
 | _::_,_::_,h=>congrArg Nat.succ h.2.length
 | [],_::_,h=>h.elim
 | _::_,[],h=>h.elim
theorem All2.get:∀ {bs:List β} {al:List α},All2 R bs al->∀ {i:Nat} {a:α},al[i]? = some a->∃ b,bs[i]? = some b/\R b a
 | [],[],_,i,a,h=>by simp at h
 | b::_,_::_,h,0,a,e=>by simp at e;subst e;exact⟨b,rfl,h.1⟩
 | _::_,_::_,h,i+1,a,e=>by
   obtain⟨b,h1,h2⟩:=h.2.get (i:=i) (a:=a) (by simpa using e)
   exact⟨b,by simpa using h1,h2⟩
 | [],_::_,h,_,_,_=>h.elim
 | _::_,[],h,_,_,_=>h.elim
end
section
variable {α : Type}
theorem PPost.mono {R S:α->List Tok->Value->World->Prop} {B:Nat} {Ts:List TypeId} {w:World} (h:∀ x c v w',R x c v w'->S x c v w') {p:PR α} {e:Ending} {w':World} (hp:PPost R B Ts w p e w'):PPost S B Ts w p e w':=by
 cases p with
 | bad a f=>exact hp
 | ok x c =>
   obtain⟨v,h1,h2,h3⟩:=hp
   exact⟨v,h1,h _ _ _ _ h2,h3⟩
theorem len2 {cs:List Value} (h:cs.length=2):∃ a b,cs=[a,b]:=by
 match cs,h with
 | [a,b],_=>exact⟨a,b,rfl⟩
theorem len3 {cs:List Value} (h:cs.length=3):∃ a b c,cs=[a,b,c]:=by
 match cs,h with
 | [a,b,c],_=>exact⟨a,b,c,rfl⟩
theorem len4 {cs:List Value} (h:cs.length=4):∃ a b c d,cs=[a,b,c,d]:=by
 match cs,h with
 | [a,b,c,d],_=>exact⟨a,b,c,d,rfl⟩
theorem own_sl {w:World} {base:Nat} {e:TypeId} {size n:Nat} {v:Value} {xs:List Value} (h:w.ownsRow base e size v n xs):∃ (a:Option Addr) (cap:Nat),v=.slice a n cap:=by
 rcases h.2 with ⟨rfl,rfl⟩ | ⟨g,cap,cur,rfl,_⟩
 ·exact⟨none,0,rfl⟩
 ·exact⟨_,cap,rfl⟩
theorem World.ownsRow.low {w:World} {base base':Nat} {e:TypeId} {size n:Nat} {v:Value} {xs:List Value} (h:w.ownsRow base e size v n xs) (hb:base'<=base):w.ownsRow base' e size v n xs:=by
 refine⟨h.1,?_⟩
 rcases h.2 with h2 | ⟨g,cap,cur,h1,h2,h3⟩
 ·exact .inl h2
 ·exact .inr ⟨g,cap,cur,h1,Nat.le_trans hb h2,h3⟩
end
section
variable {α : Type} {P : List Tok -> PR α}
end
end Go.Proofs.YtamjadghncnbcaaGreatDoor
