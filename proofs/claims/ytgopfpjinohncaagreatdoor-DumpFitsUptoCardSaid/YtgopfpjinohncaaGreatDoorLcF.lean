/- lex.isLetter, isDigit, nameEnd, walked. -/
import Derived.Test.YtgopfpjinohncaaGreatDoorLbF
set_option maxHeartbeats 4000000
set_option linter.unusedVariables false
namespace Go.Proofs.YtgopfpjinohncaaGreatDoor
open Go.Proofs.Tryz
open Go.RowKit
def aR (c:Int):Bool:=decide (97<=c/\c<=122∨65<=c/\c<=90∨c=95)
theorem bH (c:Int) (w:World):Calls prog 152 #[.int .u8 c] w fun e w'=>e=.returned (.bool (aR c))/\w=w':=by
 by_cases h1:97<=c<;>by_cases h2:c<=122<;>by_cases h3:65<=c<;>by_cases h4:c<=90<;>first | (exfalso;omega) | skip
 all_goals
  have e:aR c=decide (97<=c/\c<=122∨65<=c/\c<=90∨c=95):=rfl
  simp only[h1,h2,h3,h4] at e
  have HE:=Fx e
  clear e
  go_enter func152,ntmps152
  go_wp2
  go_ret
  exact⟨by rw[HE.out];first | (simp;done) | (by_cases h:c=95<;>simp [h]),rfl⟩
theorem dL (c:Int) (w:World):Calls prog 208 #[.int .u8 c] w fun e w'=>e=.returned (.bool (au c))/\w=w':=by
 by_cases h:48<=c<;>by_cases h2:c<=57
 all_goals
  have e:au c=decide (48<=c/\c<=57):=rfl
  simp only[h,h2] at e
  have HE:=Fx e
  clear e
  go_enter func208,ntmps208
  go_wp2
  go_ret
  exact⟨by rw[HE.out];simp,rfl⟩
def ap (l:List UInt8):Nat:=(l.takeWhile fun c=>aR c.toNat || au c.toNat).length
theorem gM {l:List UInt8} {k:Nat} (hk:k<l.length) (hd:(aR (bt l k) || au (bt l k))=true):ap (l.drop k)=1+ap (l.drop (k+1)):=by
 unfold ap
 rw[List.drop_eq_getElem_cons hk]
 have e:bt l k=(l[k].toNat:Int):=by simp [bt,hk]
 rw[e] at hd
 rw[List.takeWhile_cons,if_pos hd,List.length_cons]
 omega
theorem j0 {l:List UInt8} {k:Nat} (hk:k<l.length) (hd:(aR (bt l k) || au (bt l k))=false):ap (l.drop k)=0:=by
 unfold ap
 rw[List.drop_eq_getElem_cons hk]
 have e:bt l k=(l[k].toNat:Int):=by simp [bt,hk]
 rw[e] at hd
 rw[List.takeWhile_cons,if_neg (by rw[hd];simp)]
 rfl
theorem fC (l:List UInt8):ap l<=l.length:=by
 unfold ap
 exact (List.takeWhile_sublist _).length_le
theorem lV (s:ByteArray) (i:Nat) (w:World) (hi:i<=s.size) (hs:s.size<=281474976710656) :
 Calls prog 153 #[.string s,.int .i64 i] w fun e w'=>e=.returned (.int .i64 ((i+ap (s.data.toList.drop i):Nat):Int))/\w=w':=by
 have hsl:s.data.toList.length=s.size:=rfl
 have HSL:=Fx hsl
 clear hsl
 generalize hL:s.data.toList=l at *
 have HL:=Fx hL
 clear hL
 go_enter func153,ntmps153
 go_wp2_with fail
 go_loop [1] (fun ix=>∃ k:Nat,i<=k/\k<=s.size/\ix=.int .i64 k/\ap (l.drop i)+i=k+ap (l.drop k)) (fun ix=>s.size - (intOf ix).toNat)
 case atStart=>exact⟨i,FA,hi,rfl,by omega⟩
 case round =>
  obtain⟨k,hik,hk,rfl,hrel⟩:=hrel
  have HR:=Fx hrel
  clear hrel
  by_cases hlt:k<s.size
  ·have hbt:=bJ s k hlt
   rw[HL.out] at hbt
   have hkl:k<l.length:=by have:=HSL.out;omega
   by_cases hd:(aR (bt l k) || au (bt l k))=true
   ·have HST:=Fx (gM hkl hd)
    by_cases hl1:aR (bt l k)=true
    ·clear hd
     go_wp2_with (go_at_call 152;refine (bH _ _).mono ?_;rintro e w' ⟨rfl,rfl⟩)
     go_round
     case rel=>exact⟨k+1,by omega,by omega,by go_num,by have:=HST.out;have:=HR.out;omega⟩
     case measure=>simp [intOf];omega
    ·have hl2:aR (bt l k)=false:=by simpa using hl1
     have hd2:au (bt l k)=true:=by rw[hl2] at hd;simpa using hd
     clear hd hl1
     go_wp2_with (first | (go_at_call 152;refine (bH _ _).mono ?_;rintro e w' ⟨rfl,rfl⟩) | (go_at_call 208;refine (dL _ _).mono ?_;rintro e w' ⟨rfl,rfl⟩))
     go_round
     case rel=>exact⟨k+1,by omega,by omega,by go_num,by have:=HST.out;have:=HR.out;omega⟩
     case measure=>simp [intOf];omega
   ·have hd':(aR (bt l k) || au (bt l k))=false:=by simpa using hd
    have HE:=Fx (j0 hkl hd')
    obtain⟨hl2,hd2⟩:=Bool.or_eq_false_iff.1 hd'
    clear hd hd'
    go_wp2_with (first | (go_at_call 152;refine (bH _ _).mono ?_;rintro e w' ⟨rfl,rfl⟩) | (go_at_call 208;refine (dL _ _).mono ?_;rintro e w' ⟨rfl,rfl⟩))
    go_ret
    exact⟨by rw[show i+ap (l.drop i)=k by have:=HE.out;have:=HR.out;omega];rfl,rfl⟩
  ·have hke:k=s.size:=by omega
   subst hke
   have HE:Hid (ap (l.drop s.size)=0):=Fx (by rw[List.drop_of_length_le (by have:=HSL.out;omega)];rfl)
   go_wp2_with fail
   go_ret
   exact⟨congrArg (fun z=>Ending.returned (Value.int .i64 z)) (by have:=HE.out;have:=HR.out;omega),rfl⟩
def ey (r:List UInt8) (p:Int):ak × Int :=
 if (aD r 0).e=0 then (⟨2,r.take (aD r 0).stop.toNat,(aD r 0).k,(aD r 0).n,(aD r 0).t,p⟩,0) else (fY,(aD r 0).e)
def aA (r:List UInt8) (p:Int):ak × Int :=
 if bt r 0=58 then (if bt r 1=45 then (⟨3,[58,45],0,0,[],p⟩,0) else (fY,71))
 else if bt r 0=34∨au (bt r 0)=true∨bt r 0=45/\au (bt r 1)=true then ey r p
 else if bt r 0=45∨bt r 0=40∨bt r 0=41∨bt r 0=44∨bt r 0=43 then (⟨3,r.take 1,0,0,[],p⟩,0)
 else if aR (bt r 0)=true then (if 16<ap r then (fY,72) else (⟨1,r.take (ap r),0,0,[],p⟩,0))
 else (fY,71)
def fZ (c:Int):Bool:=decide (c=32∨c=9)
structure zC where
 ts:List ak
 at_:Int
 e:Int
def mx:Nat->List UInt8->Nat->zC
 | 0,_,_=>⟨[],0,0⟩
 | f+1,r,p =>
   if r=[]∨bt r 0=35 then ⟨[aF (p+r.length)],0,0⟩
   else if fZ (bt r 0)=true then mx f (r.drop 1) (p+1)
   else if (aA r p).2≠0 then ⟨[],p,(aA r p).2⟩
   else
    if (mx f (r.drop (aA r p).1.x.length) (p+(aA r p).1.x.length)).e≠0 then mx f (r.drop (aA r p).1.x.length) (p+(aA r p).1.x.length)
    else ⟨(aA r p).1::(mx f (r.drop (aA r p).1.x.length) (p+(aA r p).1.x.length)).ts,0,0⟩
def LX (r:List UInt8) (p:Nat):zC:=mx (r.length+1) r p
def aN (l:List UInt8):zC:=if 16384<l.length then ⟨[],0,70⟩ else LX l 0
theorem p6 {l t:List UInt8} {n:Nat} (h:aL l=some (t,n)):n<l.length:=(jw _ _ t n FA h).2
theorem ry {r:List UInt8} {p:Int} (h:(ey r p).2=0) (hr:r≠[]) :
 (aD r 0).e=0/\1<=(aD r 0).stop/\(aD r 0).stop<=r.length:=by
 have he:(aD r 0).e=0:=by
  unfold ey at h
  split at h
  ·assumption
  ·exact h
 have g:=(qe r he).2.2.2.2
 refine⟨he,?_,g⟩
 clear h g
 rw[np] at he ⊢
 by_cases hp:Lib.hasPrefix r [34]=true
 ·rw[if_pos hp] at he ⊢
  unfold df at he ⊢
  cases hs:aL (r.drop 1) with
  | none=>rw[hs] at he;simp [bad] at he
  | some q =>
    obtain⟨t,n⟩:=q
    rw[hs] at he
    simp only at he ⊢
    by_cases h64:64<t.length
    ·rw[if_pos h64] at he;simp [bad] at he
    ·rw[if_neg h64];simp only;omega
 ·rw[if_neg hp] at he ⊢
  by_cases hn:d7 r=true
  ·rw[if_pos hn] at he ⊢
   unfold fT at he ⊢
   by_cases hz:bt (Lib.trimPrefix (aM r 0) [45]) 0=48/\1<(aM r 0).length
   ·rw[if_pos hz] at he;simp [bad] at he
   ·rw[if_neg hz] at he ⊢
    have hlen:=fB (l:=r) (a:=0) (List.length_pos_iff.2 hr)
    cases hpz:Lib.parseIntB 64 (aM r 0) with
    | ok v=>simp only;omega
    | _=>rw[hpz] at he;simp [bad] at he
  ·rw[if_neg hn] at he;simp [bad] at he
theorem ik {r:List UInt8} (hr:r≠[]) (h:aR (bt r 0)=true):1<=ap r:=by
 have:=gM (l:=r) (k:=0) (List.length_pos_iff.2 hr) (by rw[h];rfl)
 rw[List.drop_zero] at this
 omega
theorem kE (c:UInt8) (r:List UInt8):bt (c::r) 0=c.toNat:=by simp [bt]
theorem BM (c:UInt8) (r:List UInt8) (k:Nat):bt (c::r) (k+1)=bt r k:=by simp [bt]
theorem dB {r:List UInt8} {p:Int} (h:(aA r p).2=0) (hr:r≠[]) :
 1<=(aA r p).1.x.length/\(aA r p).1.x=r.take (aA r p).1.x.length/\(aA r p).1.x.length<=r.length:=by
 have hl:=List.length_pos_iff.2 hr
 unfold aA at *
 split at h
 ·rename_i h58
  rw[if_pos h58]
  split at h
  ·rename_i h45
   rw[if_pos h45]
   match r,hr with
   | [a],_=>simp [bt] at h45
   | a::b::r,_ =>
     rw[kE] at h58
     rw[show (1:Nat)=0+1 from rfl,BM,kE] at h45
     have ha:a=58:=UInt8.toNat_inj.1 (show a.toNat=58 by omega)
     have hb:b=45:=UInt8.toNat_inj.1 (show b.toNat=45 by omega)
     subst ha hb
     exact⟨by simp,by simp,by simp⟩
  ·simp at h
 ·rename_i h58
  rw[if_neg h58]
  split at h
  ·rename_i hq
   rw[if_pos hq]
   obtain⟨he,h1,h2⟩:=ry h hr
   unfold ey
   rw[if_pos he]
   simp only[List.length_take]
   refine⟨by omega,?_,by omega⟩
   rw[Nat.min_eq_left (by omega)]
  ·rename_i hq
   rw[if_neg hq]
   split at h
   ·rename_i hm
    rw[if_pos hm]
    simp only[List.length_take]
    refine⟨by omega,?_,by omega⟩
    rw[Nat.min_eq_left (by omega)]
   ·rename_i hm
    rw[if_neg hm]
    split at h
    ·rename_i ht
     rw[if_pos ht]
     split at h
     ·simp at h
     ·rename_i h16
      rw[if_neg h16]
      have:=ik hr ht
      have:=fC r
      simp only[List.length_take]
      refine⟨by omega,?_,by omega⟩
      rw[Nat.min_eq_left (by omega)]
    ·simp at h
theorem pE:∀ (f g:Nat) (r:List UInt8) (p:Nat),r.length<f->r.length<g->mx f r p=mx g r p:=by
 intro f
 induction f with
 | zero=>intro g r p h;omega
 | succ f ih =>
   intro g r p hf hg
   cases g with
   | zero=>omega
   | succ g =>
     unfold mx
     split
     ·rfl
     ·rename_i h0
      have hr:r≠[]:=fun e=>h0 (.inl e)
      have hl:=List.length_pos_iff.2 hr
      split
      ·exact ih _ _ _ (by rw[List.length_drop];omega) (by rw[List.length_drop];omega)
      ·split
       ·rfl
       ·rename_i h2
        have h3:=(dB (r:=r) (p:=p) (by simpa using h2) hr).1
        rw[ih g _ _ (by rw[List.length_drop];omega) (by rw[List.length_drop];omega)]
theorem eG {r:List UInt8} {p:Nat} (h:r=[]∨bt r 0=35):LX r p=⟨[aF (p+r.length)],0,0⟩:=by
 unfold LX mx
 rw[if_pos h]
theorem dz {r:List UInt8} {p:Nat} (h:¬ (r=[]∨bt r 0=35)) (hb:fZ (bt r 0)=true):LX r p=LX (r.drop 1) (p+1):=by
 have hl:=List.length_pos_iff.2 (show r≠[] from fun e=>h (.inl e))
 unfold LX
 conv=>lhs;unfold mx
 rw[if_neg h,if_pos hb]
 exact pE _ _ _ _ (by rw[List.length_drop];omega) (by omega)
theorem iC {r:List UInt8} {p:Nat} (h:¬ (r=[]∨bt r 0=35)) (hb:fZ (bt r 0)=false) (he:(aA r p).2≠0):LX r p=⟨[],p,(aA r p).2⟩:=by
 unfold LX mx
 rw[if_neg h,if_neg (by rw[hb];simp),if_pos he]
theorem gE {r:List UInt8} {p:Nat} (h:¬ (r=[]∨bt r 0=35)) (hb:fZ (bt r 0)=false) (he:(aA r p).2=0) :
 LX r p=if (LX (r.drop (aA r p).1.x.length) (p+(aA r p).1.x.length)).e≠0 then LX (r.drop (aA r p).1.x.length) (p+(aA r p).1.x.length)
  else ⟨(aA r p).1::(LX (r.drop (aA r p).1.x.length) (p+(aA r p).1.x.length)).ts,0,0⟩:=by
 have hr:r≠[]:=fun e=>h (.inl e)
 have hl:=List.length_pos_iff.2 hr
 have h3:=(dB (r:=r) (p:=p) he hr).1
 have e:=pE r.length ((r.drop (aA r p).1.x.length).length+1) (r.drop (aA r p).1.x.length) (p+(aA r p).1.x.length) (by rw[List.length_drop];omega) (by omega)
 unfold LX
 conv=>lhs;unfold mx
 rw[if_neg h,if_neg (by rw[hb];simp),if_neg (by simpa using he),e]
def zC.behind (a:zC) (acc:List ak):zC:=if a.e≠0 then a else ⟨acc++a.ts,a.at_,a.e⟩
theorem vN (r:List UInt8) (p:Nat):(LX r p).behind []=LX r p:=by
 unfold zC.behind
 split
 ·rfl
 ·rfl
theorem EV:∀ (m:Nat) (r:List UInt8) (p:Nat),r.length<=m->((LX r p).e=0->(LX r p).at_=0)/\((LX r p).e≠0->(LX r p).ts=[]):=by
 intro m
 induction m with
 | zero =>
   intro r p h
   have:r=[]:=List.length_eq_zero_iff.1 (by omega)
   subst this
   rw[eG (.inl rfl)]
   exact⟨fun _=>rfl,fun h=>absurd rfl h⟩
 | succ m ih =>
   intro r p h
   by_cases h0:r=[]∨bt r 0=35
   ·rw[eG h0]
    exact⟨fun _=>rfl,fun h=>absurd rfl h⟩
   ·have hr:r≠[]:=fun e=>h0 (.inl e)
    have hl:=List.length_pos_iff.2 hr
    by_cases hb:fZ (bt r 0)=true
    ·rw[dz h0 hb]
     exact ih _ _ (by rw[List.length_drop];omega)
    ·have hb':fZ (bt r 0)=false:=by simpa using hb
     by_cases he:(aA r p).2=0
     ·have h3:=(dB he hr).1
      have:=ih (r.drop (aA r p).1.x.length) (p+(aA r p).1.x.length) (by rw[List.length_drop];omega)
      rw[gE h0 hb' he]
      split
      ·exact this
      ·exact⟨fun _=>rfl,fun h=>absurd rfl h⟩
     ·rw[iC h0 hb' he]
      exact⟨fun h=>absurd h he,fun _=>rfl⟩
theorem uG {r:List UInt8} {p:Nat} (acc:List ak) (h:¬ (r=[]∨bt r 0=35)) (hb:fZ (bt r 0)=false) (he:(aA r p).2=0) :
 (LX r p).behind acc=(LX (r.drop (aA r p).1.x.length) (p+(aA r p).1.x.length)).behind (acc++[(aA r p).1]):=by
 rw[gE h hb he]
 have hk:=EV _ (r.drop (aA r p).1.x.length) (p+(aA r p).1.x.length) FA
 generalize LX (r.drop (aA r p).1.x.length) (p+(aA r p).1.x.length)=R at *
 unfold zC.behind
 by_cases h2:R.e=0
 ·rw[if_neg (show ¬ R.e≠0 by simpa using h2),if_neg (show ¬ R.e≠0 by simpa using h2),if_neg (by simp),hk.1 h2,h2]
  simp
 ·rw[if_pos h2,if_pos h2,if_pos h2]
theorem wk {r:List UInt8} {p:Nat} (acc:List ak) (h:¬ (r=[]∨bt r 0=35)) (hb:fZ (bt r 0)=false) (he:(aA r p).2≠0):(LX r p).behind acc=⟨[],p,(aA r p).2⟩:=by
 rw[iC h hb he]
 unfold zC.behind
 rw[if_pos he]
theorem nJ {r:List UInt8} {p:Nat} (acc:List ak) (h:r=[]∨bt r 0=35):(LX r p).behind acc=⟨acc++[aF (p+r.length)],0,0⟩:=by
 rw[eG h]
 unfold zC.behind
 rw[if_neg (by simp)]
theorem uo {l z:List UInt8} (h:(aC l).2≠0) (hl:(aC l).2<=l.length) (hz:(aC l).2<=z.length) (hb:∀ j:Nat,(j:Int)<(aC l).2->bt z j=bt l j):aC z=aC l:=by
 unfold aC at h hz hb hl ⊢
 by_cases h0:bt l 0=92
 ·have n0:¬ bt l 0≠92:=by simp [h0]
  rw[if_neg n0] at h hz hb hl
  conv=>rhs;rw[if_neg n0]
  by_cases h1:(l.length:Int)<2
  ·rw[if_pos h1] at h;simp at h
  ·rw[if_neg h1] at h hz hb hl
   conv=>rhs;rw[if_neg h1]
   by_cases h2:bt l 1=34∨bt l 1=92
   ·rw[if_pos h2] at h hz hb hl
    conv=>rhs;rw[if_pos h2]
    have e0:=hb 0 (by simp)
    have e1:=hb 1 (by simp)
    simp only at hz
    rw[e0,e1,if_neg n0,if_neg (by omega),if_pos h2]
   ·rw[if_neg h2] at h hz hb hl
    conv=>rhs;rw[if_neg h2]
    by_cases h3:bt l 1=110
    ·rw[if_pos h3] at h hz hb hl
     conv=>rhs;rw[if_pos h3]
     have e0:=hb 0 (by simp)
     have e1:=hb 1 (by simp)
     simp only at hz
     rw[e0,e1,if_neg n0,if_neg (by omega),if_neg h2,if_pos h3]
    ·rw[if_neg h3] at h hz hb hl
     conv=>rhs;rw[if_neg h3]
     by_cases h4:bt l 1=116
     ·rw[if_pos h4] at h hz hb hl
      conv=>rhs;rw[if_pos h4]
      have e0:=hb 0 (by simp)
      have e1:=hb 1 (by simp)
      simp only at hz
      rw[e0,e1,if_neg n0,if_neg (by omega),if_neg h2,if_neg h3,if_pos h4]
     ·rw[if_neg h4] at h hz hb hl
      conv=>rhs;rw[if_neg h4]
      by_cases h5:bt l 1=120
      ·rw[if_pos h5] at h hz hb hl
       conv=>rhs;rw[if_pos h5]
       by_cases h6:(l.length:Int)<4
       ·rw[if_pos h6] at h;simp at h
       ·rw[if_neg h6] at h hz hb hl
        conv=>rhs;rw[if_neg h6]
        by_cases h7:dY (bt l 2)<0
        ·rw[if_pos h7] at h;simp at h
        ·rw[if_neg h7] at h hz hb hl
         conv=>rhs;rw[if_neg h7]
         by_cases h8:dY (bt l 3)<0
         ·rw[if_pos h8] at h;simp at h
         ·rw[if_neg h8] at h hz hb hl
          conv=>rhs;rw[if_neg h8]
          have e0:=hb 0 (by simp)
          have e1:=hb 1 (by simp)
          have e2:=hb 2 (by simp)
          have e3:=hb 3 (by simp)
          simp only at hz
          rw[e0,e1,e2,e3,if_neg n0,if_neg (by omega),if_neg h2,if_neg h3,if_neg h4,if_pos h5,if_neg (by omega),if_neg h7,if_neg h8]
      ·rw[if_neg h5] at h;simp at h
 ·rw[if_pos h0] at h hz hb hl
  conv=>rhs;rw[if_pos h0]
  by_cases h1:bt l 0<32
  ·rw[if_pos h1] at h;simp at h
  ·rw[if_neg h1] at h hz hb hl
   conv=>rhs;rw[if_neg h1]
   by_cases h2:126<bt l 0
   ·rw[if_pos h2] at h;simp at h
   ·rw[if_neg h2] at h hz hb hl
    conv=>rhs;rw[if_neg h2]
    have e0:=hb 0 (by simp)
    rw[e0,if_pos h0,if_neg h1,if_neg h2]
theorem eA {l y:List UInt8} {n j:Nat} (hj:j<n) (hn:n<=l.length):bt (l.take n++y) j=bt l j:=by
 unfold bt
 rw[List.getD_eq_getElem?_getD,List.getD_eq_getElem?_getD,List.getElem?_append_left (by rw[List.length_take];omega),List.getElem?_take_of_lt hj]
theorem mn (y:List UInt8):∀ (m:Nat) (l t:List UInt8) (n:Nat),l.length<=m->aL l=some (t,n)->aL (l.take (n+1)++y)=some (t,n):=by
 intro m
 induction m with
 | zero =>
   intro l t n hm h
   have:l=[]:=List.length_eq_zero_iff.1 (by omega)
   subst this
   rw[dV] at h;cases h
 | succ m ih =>
   intro l t n hm h
   have hn:=p6 h
   have hl:l≠[]:=fun e=>by subst e;rw[dV] at h;cases h
   have hz:l.take (n+1)++y≠[]:=by
    intro e
    have:=congrArg List.length e
    rw[List.length_append,List.length_take,List.length_nil] at this
    omega
   by_cases hq:bt l 0=34
   ·rw[cx hl hq] at h
    cases h
    exact cx hz (by rw[eA (by omega) (by omega)];exact hq)
   ·by_cases hs:(aC l).2=0
    ·rw[gR hl hq hs] at h;cases h
    ·rw[dA hl hq hs] at h
     have hb:=kJ l hl
     cases h2:aL (l.drop (aC l).2.toNat) with
     | none=>rw[h2] at h;cases h
     | some q =>
       obtain⟨t',n'⟩:=q
       rw[h2] at h
       simp only[Option.map_some,Option.some.injEq,Prod.mk.injEq] at h
       obtain⟨rfl,rfl⟩:=h
       have hsc:aC (l.take (n'+(aC l).2.toNat+1)++y)=aC l:=by
        refine uo hs (by omega) ?_ ?_
        ·rw[List.length_append,List.length_take];omega
        ·intro j hj
         exact eA (by omega) (by omega)
       rw[dA hz (by rw[eA (by omega) (by omega)];exact hq) (by rw[hsc];exact hs),hsc]
       have he:(l.take (n'+(aC l).2.toNat+1)++y).drop (aC l).2.toNat=(l.drop (aC l).2.toNat).take (n'+1)++y:=by
        rw[List.drop_append_of_le_length (by rw[List.length_take];omega),List.drop_take]
        congr 2
        omega
       rw[he,ih _ t' n' (by rw[List.length_drop];omega) h2]
       rfl
theorem AE {x y rest:List UInt8} (hx:d9 (x++rest)=x.length) (hc:au (bt y 0)=true->au (bt rest 0)=true):d9 (x++y)=x.length:=by
 have hall:∀ c∈x,au c.toNat=true:=by
  intro c hcx
  have h:=sC (l:=x++rest) c
  rw[hx,List.take_left] at h
  exact h hcx
 have e:∀ z:List UInt8,d9 (x++z)=x.length+d9 z:=by
  intro z
  unfold d9
  rw[List.takeWhile_append_of_pos (by simpa using hall),List.length_append]
 rw[e] at hx
 rw[e]
 have h0:d9 rest=0:=by omega
 have hr:au (bt rest 0)=false:=by
  cases rest with
  | nil=>decide
  | cons c r =>
    rw[kE]
    cases hd:au c.toNat with
    | false=>rfl
    | true =>
      exfalso
      have:=iW (l:=c::r) (k:=0) (by simp) (by rw[kE];exact hd)
      rw[List.drop_zero] at this
      omega
 have hy:au (bt y 0)=false:=by
  cases hd:au (bt y 0) with
  | false=>rfl
  | true=>rw[hc hd] at hr;cases hr
 cases y with
 | nil=>rfl
 | cons c r =>
   have:=po (l:=c::r) (k:=0) (by simp) hy
   rw[List.drop_zero] at this
   omega
theorem lK {r x rest y:List UInt8} (hr:r=x++rest) (hne:r≠[]) (he:(aD r 0).e=0) (hx:(aD r 0).stop=x.length) (hc:au (bt y 0)=true->au (bt rest 0)=true) :
 aD (x++y) 0=aD r 0/\(bt r 0=45->2<=x.length):=by
 subst hr
 rw[np] at he hx
 rw[np (x++y),np (x++rest)]
 split at he
 ·rename_i hp
  rw[if_pos hp] at hx ⊢
  unfold df at he hx ⊢
  cases hs:aL ((x++rest).drop 1) with
  | none=>rw[hs] at he;simp [bad] at he
  | some q =>
    obtain⟨t,n⟩:=q
    have hn:=p6 hs
    rw[hs] at he hx
    simp only at he hx
    split at he
    ·simp [bad] at he
    ·rename_i h64
     rw[if_neg h64] at hx
     simp only at hx
     have hxl:x.length=n+2:=by omega
     obtain⟨c,x',rfl⟩:∃ c x',x=c::x':=by
      cases x with
      | nil=>simp at hxl
      | cons c x'=>exact⟨c,x',rfl⟩
     have hc34:c=34:=by
      simp only[List.cons_append,Lib.hasPrefix,List.isPrefixOf,Bool.and_true,beq_iff_eq] at hp
      exact hp.symm
     subst hc34
     have e2:(34::x'++y).drop 1=((34::x'++rest).drop 1).take (n+1)++y:=by
      simp only[List.cons_append,List.drop_succ_cons,List.drop_zero]
      simp only[List.length_cons] at hxl
      rw[List.take_left' (by omega)]
     rw[if_pos (by simp [Lib.hasPrefix,List.isPrefixOf])]
     refine⟨?_,fun h=>?_⟩
     ·rw[e2,mn y _ _ t n FA hs]
     ·simp [bt] at h
 ·rename_i hp
  rw[if_neg hp] at hx ⊢
  split at he
  ·rename_i hn
   rw[if_pos hn] at hx ⊢
   have hlen:=fB (l:=x++rest) (a:=0) (List.length_pos_iff.2 hne)
   have hnx:(aM (x++rest) 0).length=x.length:=by
    unfold fT at he hx
    split at he
    ·simp [bad] at he
    ·rename_i hz
     rw[if_neg hz] at hx
     cases hpz:Lib.parseIntB 64 (aM (x++rest) 0) with
     | ok v=>rw[hpz] at hx;simp only at hx;omega
     | _=>rw[hpz] at he;simp [bad] at he
   obtain⟨c,x',rfl⟩:∃ c x',x=c::x':=by
    cases x with
    | nil=>rw[hnx] at hlen;simp at hlen;omega
    | cons c x'=>exact⟨c,x',rfl⟩
   have hd1:d9 (x'++rest)=x'.length:=by
    rw[hnx] at hlen
    simp only[List.cons_append,Nat.zero_add,List.drop_succ_cons,List.drop_zero,List.length_cons] at hlen
    omega
   have hd2:=AE hd1 hc
   have ht:∀ z:List UInt8,d9 (x'++z)=x'.length->aM (c::x'++z) 0=c::x':=by
    intro z hz
    unfold aM
    simp only[List.cons_append,Nat.zero_add,List.drop_succ_cons,List.drop_zero]
    rw[hz,Nat.add_comm,List.take_succ_cons,List.take_left]
   have hb0:bt (c::x'++y) 0=bt (c::x'++rest) 0:=by simp [bt]
   have hpos:0<d9 (x'++rest)->au (bt (c::x'++y) 1)=true/\au (bt (c::x'++rest) 1)=true:=by
    intro h
    cases x' with
    | nil=>simp only[List.length_nil] at hd1;omega
    | cons d x'' =>
      have:=sC (l:=d::x''++rest) d (by rw[hd1];simp)
      refine⟨?_,?_⟩
      ·simpa [bt] using this
      ·simpa [bt] using this
   have hnum:d7 (c::x'++y)=true/\(bt (c::x'++rest) 0=45->0<d9 (x'++rest)):=by
    unfold d7 at hn ⊢
    simp only[decide_eq_true_eq] at hn ⊢
    rcases hn with ⟨h1,h2⟩ | ⟨h1,h2,h3⟩
    ·refine⟨.inl ⟨by simp,by rw[hb0];exact h2⟩,fun h=>?_⟩
     rw[h] at h2;simp [au] at h2
    ·have hpd:0<d9 (x'++rest):=by
      have h4:=iW (l:=c::x'++rest) (k:=1) h1 h3
      simp only[List.cons_append,List.drop_succ_cons,List.drop_zero] at h4
      omega
     have:=hpos hpd
     refine⟨.inr ⟨?_,by rw[hb0];exact h2,this.1⟩,fun _=>hpd⟩
     simp only[List.cons_append,List.length_cons,List.length_append]
     omega
   have hq:¬ Lib.hasPrefix (c::x'++y) [34]=true:=by
    intro h
    refine hp ?_
    simp only[List.cons_append,Lib.hasPrefix,List.isPrefixOf,Bool.and_true] at h ⊢
    exact h
   rw[if_neg hq,if_pos hnum.1]
   refine⟨?_,fun h=>?_⟩
   ·unfold fT
    rw[ht y hd2,ht rest hd1]
   ·have:=hnum.2 h
    simp only[List.length_cons]
    omega
  ·simp [bad] at he
theorem iw {x y rest:List UInt8} (hx:ap (x++rest)=x.length) (hc:(aR (bt y 0) || au (bt y 0))=true->(aR (bt rest 0) || au (bt rest 0))=true):ap (x++y)=x.length:=by
 have hall:∀ c∈x,(aR c.toNat || au c.toNat)=true:=by
  have h:x=(x++rest).takeWhile fun c=>aR c.toNat || au c.toNat:=by
   have h1:=List.takeWhile_prefix (fun c:UInt8=>aR c.toNat || au c.toNat) (l:=x++rest)
   have h2:x <+: x++rest:=List.prefix_append _ _
   exact List.IsPrefix.eq_of_length (List.prefix_of_prefix_length_le h2 h1 (by unfold ap at hx;omega)) (by unfold ap at hx;omega)
  intro c hcx
  rw[h] at hcx
  exact List.all_eq_true.1 (List.all_takeWhile (p:=fun c:UInt8=>aR c.toNat || au c.toNat) (l:=x++rest)) c hcx
 have e:∀ z:List UInt8,ap (x++z)=x.length+ap z:=by
  intro z
  unfold ap
  rw[List.takeWhile_append_of_pos (by simpa using hall),List.length_append]
 rw[e] at hx
 rw[e]
 have h0:ap rest=0:=by omega
 have hr:(aR (bt rest 0) || au (bt rest 0))=false:=by
  cases rest with
  | nil=>decide
  | cons c r =>
    cases hd:(aR (bt (c::r) 0) || au (bt (c::r) 0)) with
    | false=>rfl
    | true =>
      exfalso
      have:=gM (l:=c::r) (k:=0) (by simp) hd
      rw[List.drop_zero] at this
      omega
 have hy:(aR (bt y 0) || au (bt y 0))=false:=by
  cases hd:(aR (bt y 0) || au (bt y 0)) with
  | false=>rfl
  | true=>rw[hc hd] at hr;cases hr
 cases y with
 | nil=>rfl
 | cons c r =>
   have:=j0 (l:=c::r) (k:=0) (by simp) hy
   rw[List.drop_zero] at this
   omega
def il (y rest:List UInt8):Prop:=bt y 0=bt rest 0∨bt y 0=32∨y=[]
theorem il.dig {y rest:List UInt8} (h:il y rest):au (bt y 0)=true->au (bt rest 0)=true:=by
 rcases h with h | h | h
 ·rw[h];exact id
 ·rw[h];intro g;simp [au] at g
 ·subst h;intro g;simp [au,bt] at g
theorem il.nam {y rest:List UInt8} (h:il y rest):(aR (bt y 0) || au (bt y 0))=true->(aR (bt rest 0) || au (bt rest 0))=true:=by
 rcases h with h | h | h
 ·rw[h];exact id
 ·rw[h];intro g;simp [au,aR] at g
 ·subst h;intro g;simp [au,aR,bt] at g
theorem vg {r x rest y:List UInt8} {p:Int} (hr:r=x++rest) (hne:r≠[]) (he:(aA r p).2=0) (hx:(aA r p).1.x=x) (hc:il y rest):aA (x++y) p=aA r p:=by
 obtain⟨l1,l2,l3⟩:=dB he hne
 rw[hx] at l1 l2 l3
 have b0:bt (x++y) 0=bt r 0:=by
  subst hr
  cases x with
  | nil=>simp at l1
  | cons c x=>simp [bt]
 have b1:2<=x.length->bt (x++y) 1=bt r 1:=by
  intro h
  subst hr
  match x,h with
  | a::b::x,_=>simp [bt]
 have b1':x.length=1->bt (x++y) 1=bt y 0/\bt r 1=bt rest 0:=by
  intro h
  subst hr
  match x,h with
  | [a],_=>simp [bt]
 unfold aA at he hx ⊢
 rw[b0]
 split at he
 ·rename_i h58
  rw[if_pos h58] at hx
  rw[if_pos h58,if_pos h58]
  split at he
  ·rename_i h45
   rw[if_pos h45] at hx
   simp only at hx
   subst hx
   rw[b1 (by simp),if_pos h45]
  ·simp at he
 ·rename_i h58
  rw[if_neg h58] at hx
  rw[if_neg h58,if_neg h58]
  split at he
  ·rename_i hq
   rw[if_pos hq] at hx ⊢
   obtain⟨g,h1,h2⟩:=ry he hne
   unfold ey at hx ⊢
   rw[if_pos g] at hx ⊢
   simp only at hx
   have hxl:(aD r 0).stop=x.length:=by
    rw[<-hx,List.length_take];omega
   obtain⟨hs,h45⟩:=lK hr hne g hxl hc.dig
   have hq':bt r 0=34∨au (bt r 0)=true∨bt r 0=45/\au (bt (x++y) 1)=true:=by
    rcases hq with h | h | ⟨h,h'⟩
    ·exact .inl h
    ·exact .inr (.inl h)
    ·exact .inr (.inr ⟨h,by rw[b1 (h45 h)];exact h'⟩)
   rw[if_pos hq',hs,if_pos g]
   rw[hxl,Int.toNat_natCast,List.take_left]
   have:r.take x.length=x:=by rw[hr,List.take_left]
   rw[this]
  ·rename_i hq
   rw[if_neg hq] at hx ⊢
   split at he
   ·rename_i hm
    rw[if_pos hm] at hx ⊢
    simp only at hx
    have hx1:x.length=1:=by
     have:=List.length_pos_iff.2 hne
     rw[<-hx,List.length_take];omega
    have hq':¬ (bt r 0=34∨au (bt r 0)=true∨bt r 0=45/\au (bt (x++y) 1)=true):=by
     rintro (h | h | ⟨h,h'⟩)
     ·exact hq (.inl h)
     ·exact hq (.inr (.inl h))
     ·refine hq (.inr (.inr ⟨h,?_⟩))
      rw[(b1' hx1).1] at h'
      rw[(b1' hx1).2]
      exact hc.dig h'
    rw[if_neg hq']
    try rw[if_pos hm]
    have e1:(x++y).take 1=x:=by rw[<-hx1,List.take_left]
    rw[e1,hx]
   ·rename_i hm
    rw[if_neg hm] at hx ⊢
    have h45:¬ bt r 0=45:=fun h=>hm (.inl h)
    have hq':¬ (bt r 0=34∨au (bt r 0)=true∨bt r 0=45/\au (bt (x++y) 1)=true):=by
     rintro (h | h | ⟨h,h'⟩)
     ·exact hq (.inl h)
     ·exact hq (.inr (.inl h))
     ·exact h45 h
    rw[if_neg hq',if_neg hm]
    split at he
    ·rename_i ht
     rw[if_pos ht] at hx ⊢
     split at he
     ·simp at he
     ·rename_i h16
      rw[if_neg h16] at hx ⊢
      rw[if_pos ht]
      simp only at hx
      have hxl:ap (x++rest)=x.length:=by
       rw[<-hr,<-hx,List.length_take]
       have:=fC r
       omega
      have hn:=iw hxl hc.nam
      rw[hr] at h16
      rw[if_neg (by omega),hn,List.take_left,hr,hxl,List.take_left]
    ·simp at he
theorem Bz (l:List UInt8):(aD l 0).e≠70:=by
 rw[np]
 unfold df fT
 repeat' split
 all_goals (simp only[bad];decide)
theorem CB (r:List UInt8) (p:Int):(aA r p).2≠70:=by
 have:=Bz r
 unfold aA ey
 repeat' split
 all_goals first | (simp only;assumption) | (simp only;decide)
theorem fJ {x y:List UInt8} (hx:x≠[]) (h:bt x 0≠35):¬ (x++y=[]∨bt (x++y) 0=35):=by
 cases x with
 | nil=>exact absurd rfl hx
 | cons c x =>
   rintro (e | e)
   ·cases e
   ·exact h (by simpa [bt] using e)
theorem em {x y:List UInt8} (hx:x≠[]):bt (x++y) 0=bt x 0:=by
 cases x with
 | nil=>exact absurd rfl hx
 | cons c x=>simp [bt]
theorem Dg {x y rest:List UInt8} {p q:Nat} (h:¬ (x++rest=[]∨bt (x++rest) 0=35)) (hb:fZ (bt (x++rest) 0)=false) (he:(aA (x++rest) p).2=0) (hx:(aA (x++rest) p).1.x=x)
 (hc:il y rest):LX (x++y) p=if (LX y (p+x.length)).e≠0 then LX y (p+x.length) else ⟨(aA (x++rest) p).1::(LX y (p+x.length)).ts,0,0⟩:=by
 have hne:x++rest≠[]:=fun e=>h (.inl e)
 obtain⟨l1,_,_⟩:=dB he hne
 rw[hx] at l1
 have hx0:x≠[]:=fun e=>by subst e;simp at l1
 rw[em hx0] at hb
 have h35:bt x 0≠35:=fun e=>h (.inr (by rw[em hx0];exact e))
 have hs:=vg (y:=y) rfl hne he hx hc
 have:=gE (r:=x++y) (p:=p) (fJ hx0 h35) (by rw[em hx0];exact hb) (by rw[hs];exact he)
 rw[hs,hx,List.drop_left] at this
 exact this
theorem yI {r:List UInt8} {p:Int} (he:(aA r p).2=0) (hr:r≠[]):r=(aA r p).1.x++r.drop (aA r p).1.x.length:=by
 obtain⟨_,h,_⟩:=dB he hr
 conv=>lhs;rw[<-List.take_append_drop (aA r p).1.x.length r]
 rw[<-h]
theorem tQ:∀ (m:Nat) (r:List UInt8) (p:Nat),r.length<=m->(LX r p).e≠0 ->
 ∃ n ts,(LX r p).at_=((p+n:Nat):Int)/\n<r.length/\(LX r p).e≠70/\LX (r.take n) p=⟨ts++[aF (p+n)],0,0⟩ /\
  ∀ more,(LX (r.take n++32::more) p).e=0->∃ us,(LX (r.take n++32::more) p).ts=ts++us:=by
 intro m
 induction m with
 | zero =>
   intro r p h he
   have:r=[]:=List.length_eq_zero_iff.1 (by omega)
   subst this
   rw[eG (.inl rfl)] at he
   exact absurd rfl he
 | succ m ih =>
   intro r p h he
   by_cases h0:r=[]∨bt r 0=35
   ·rw[eG h0] at he
    exact absurd rfl he
   have hr:r≠[]:=fun e=>h0 (.inl e)
   have hl:=List.length_pos_iff.2 hr
   by_cases hb:fZ (bt r 0)=true
   ·rw[dz h0 hb] at he ⊢
    obtain⟨c,r',rfl⟩:∃ c r',r=c::r':=by
     cases r with
     | nil=>exact absurd rfl hr
     | cons c r'=>exact⟨c,r',rfl⟩
    simp only[List.drop_succ_cons,List.drop_zero] at he ⊢
    simp only[List.length_cons] at h
    obtain⟨n,ts,e1,e2,e3,e4,e5⟩:=ih r' (p+1) (by omega) he
    have hb0:bt [c] 0=bt (c::r') 0:=by simp [bt]
    have h35:bt [c] 0≠35:=fun e=>h0 (.inr (by rw[<-hb0];exact e))
    have key:∀ z,LX (c::z) p=LX z (p+1):=by
     intro z
     have:=dz (r:=[c]++z) (p:=p) (fJ (by simp) h35) (by rw[em (by simp),hb0];exact hb)
     simpa using this
    refine⟨n+1,ts,by rw[e1];congr 1;omega,by simp only[List.length_cons];omega,e3,?_,fun more hm=>?_⟩
    ·rw[List.take_succ_cons,key,e4,Nat.add_assoc,Nat.add_comm 1]
    ·rw[List.take_succ_cons,List.cons_append,key] at hm ⊢
     exact e5 more hm
   ·have hb':fZ (bt r 0)=false:=by simpa using hb
    by_cases hz:(aA r p).2=0
    ·have hsp:=yI hz hr
     obtain⟨l1,_,l3⟩:=dB hz hr
     generalize hx:(aA r p).1.x=x at *
     generalize hrest:r.drop x.length=rest at *
     have hstep:=fun y (hc:il y rest)=>Dg (y:=y) (p:=p) (q:=p) (by rw[<-hsp];exact h0) (by rw[<-hsp];exact hb') (by rw[<-hsp];exact hz) (by rw[<-hsp];exact hx) hc
     have h1:=hstep rest (.inl rfl)
     rw[<-hsp] at h1
     have he2:(LX rest (p+x.length)).e≠0:=by
      rw[h1] at he
      split at he
      ·exact he
      ·exact absurd rfl he
     rw[h1,if_pos he2]
     have hlen:r.length=x.length+rest.length:=by rw[hsp,List.length_append]
     obtain⟨n,ts,e1,e2,e3,e4,e5⟩:=ih rest (p+x.length) (by omega) he2
     have htk:r.take (x.length+n)=x++rest.take n:=by rw[hsp,List.take_length_add_append]
     refine⟨x.length+n,(aA r p).1::ts,by rw[e1];congr 1;omega,by omega,e3,?_,fun more hm=>?_⟩
     ·rw[htk,hstep (rest.take n) ?_,e4,if_neg (by simp),<-hsp]
      ·simp only[List.cons_append];rw[Nat.add_assoc]
      ·cases n with
       | zero=>exact .inr (.inr (by simp))
       | succ n =>
         cases rest with
         | nil=>simp at e2
         | cons a b=>exact .inl (by simp [bt])
     ·have hB:il (rest.take n++32::more) rest:=by
       cases n with
       | zero=>exact .inr (.inl (by simp [bt]))
       | succ n =>
         cases rest with
         | nil=>simp at e2
         | cons a b=>exact .inl (by simp [bt])
      rw[htk,List.append_assoc,hstep _ hB,<-hsp] at hm ⊢
      split at hm
      ·rename_i hne;exact absurd hm hne
      ·rename_i hne
       rw[if_neg hne]
       obtain⟨us,hus⟩:=e5 more (by simpa using hne)
       exact⟨us,by simp only[hus,List.cons_append]⟩
    ·refine⟨0,[],?_,hl,?_,?_,fun more hm=>⟨_,(List.nil_append _).symm⟩⟩
     ·rw[iC h0 hb' hz];rfl
     ·rw[iC h0 hb' hz];exact CB r p
     ·rw[List.take_zero,eG (.inl rfl)];rfl
inductive lJ (l:List UInt8):Nat->List ak->Prop
 | last {to m:Nat} (h1:to<=m) (h2:m<=l.length) (hb:∀ j,to<=j->j<m->fZ (bt l j)=true) (he:m<l.length->bt l m=35):lJ l to [aF l.length]
 | more {to p:Nat} {t:ak} {ts:List ak} (h1:to<=p) (hp:t.p=p) (hb:∀ j,to<=j->j<p->fZ (bt l j)=true) (h2:p+t.x.length<=l.length) (hx:(l.drop p).take t.x.length=t.x) (h3:1<=t.x.length) (hk:t.k≠0)
    (hr:lJ l (p+t.x.length) ts):lJ l to (t::ts)
theorem j9 {r:List UInt8} {p:Int}:(aA r p).2=0->(aA r p).1.k≠0/\(aA r p).1.p=p:=by
 unfold aA ey
 repeat' split
 all_goals
  intro h
  first
  | exact⟨by simp,rfl⟩
  | (simp at h;done)
  | contradiction
theorem lJ.early {l:List UInt8} {to:Nat} {ts:List ak} (h:lJ l (to+1) ts) (hb:fZ (bt l to)=true):lJ l to ts:=by
 have key:∀ n,(∀ j,to+1<=j->j<n->fZ (bt l j)=true)->∀ j,to<=j->j<n->fZ (bt l j)=true:=by
  intro n hn j h1 h2
  by_cases e:j=to
  ·subst e;exact hb
  ·exact hn j (by omega) h2
 cases h with
 | last h1 h2 hb' he=>exact .last (by omega) h2 (key _ hb') he
 | more h1 hp hb' h2 hx h3 hk hr=>exact .more (by omega) hp (key _ hb') h2 hx h3 hk hr
theorem Au (l:List UInt8):∀ (m to:Nat),to<=l.length->l.length - to<=m->(LX (l.drop to) to).e=0->lJ l to (LX (l.drop to) to).ts:=by
 intro m
 have hend:∀ to,to<=l.length->(l.drop to=[]∨bt (l.drop to) 0=35)->lJ l to (LX (l.drop to) to).ts:=by
  intro to hto h0
  rw[eG h0]
  have e:to+(l.drop to).length=l.length:=by rw[List.length_drop];omega
  rw[e]
  refine .last (m:=to) FA hto (fun j h1 h2=>by omega) (fun h=>?_)
  rcases h0 with h0 | h0
  ·have:=congrArg List.length h0
   rw[List.length_drop] at this
   simp at this
   omega
  ·rw[eK] at h0;simpa using h0
 induction m with
 | zero =>
   intro to hto hm he
   exact hend to hto (.inl (by rw[List.drop_of_length_le (by omega)]))
 | succ m ih =>
   intro to hto hm he
   by_cases h0:l.drop to=[]∨bt (l.drop to) 0=35
   ·exact hend to hto h0
   have hr:l.drop to≠[]:=fun e=>h0 (.inl e)
   have hl:to<l.length:=by
    have:=List.length_pos_iff.2 hr
    rw[List.length_drop] at this
    omega
   have hbt:bt (l.drop to) 0=bt l to:=by rw[eK];rfl
   by_cases hb:fZ (bt (l.drop to) 0)=true
   ·rw[dz h0 hb,List.drop_drop] at he ⊢
    exact (ih (to+1) (by omega) (by omega) he).early (by rw[<-hbt];exact hb)
   ·have hb':fZ (bt (l.drop to) 0)=false:=by simpa using hb
    by_cases hz:(aA (l.drop to) to).2=0
    ·obtain⟨l1,l2,l3⟩:=dB hz hr
     obtain⟨k1,k2⟩:=j9 hz
     rw[gE h0 hb' hz,List.drop_drop] at he ⊢
     rw[List.length_drop] at l3
     split at he
     ·rename_i hne;exact absurd he hne
     ·rename_i hne
      rw[if_neg hne]
      exact .more (p:=to) FA k2 (fun j h1 h2=>by omega) (by omega) l2.symm l1 k1 (ih _ (by omega) (by omega) (by simpa using hne))
    ·rw[iC h0 hb' hz] at he
     exact absurd he hz
def ai (l:List UInt8):Bool:=decide (l≠[]/\aR (bt l 0)=true/\ap l=l.length/\l.length<=16)
theorem ud {r:List UInt8} {p:Int}:(aA r p).2=0->(aA r p).1.k=1->aR (bt r 0)=true/\ap r<=16/\(aA r p).1.x=r.take (ap r):=by
 unfold aA ey
 repeat' split
 all_goals
  intro h g
  first
  | (simp at h;done)
  | (simp at g;done)
  | contradiction
  | exact⟨by assumption,by omega,rfl⟩
