/- lex.isLetter, isDigit, nameEnd, walked. The tokens of a line, plainly: what stands at a place, the whole line; what hangs on what. Tokens, plainly: what a token hangs on. The laws of tokens, plainly: faults, blanks, tiles, names. -/
import Derived.Test.YtamjadghncnbcaaGreatDoorLaT
import Derived.Test.YtamjadghncnbcaaGreatDoorLbT
namespace Go.Proofs.YtamjadghncnbcaaGreatDoor
open Go.RowKit
set_option linter.unusedVariables false
def letB (c:Int):Bool:=decide (97<=c/\c<=122∨65<=c/\c<=90∨c=95)
set_option maxHeartbeats 4000000 in
theorem isLetter_any (c:Int) (w:World):Calls Tryz.prog 126 #[.int .u8 c] w fun e w'=>e=.returned (.bool (letB c))/\w=w':=by
 by_cases h1:97<=c<;>by_cases h2:c<=122<;>by_cases h3:65<=c<;>by_cases h4:c<=90<;>first | (exfalso;omega) | skip
 all_goals
  have e:letB c=decide (97<=c/\c<=122∨65<=c/\c<=90∨c=95):=rfl
  simp only[h1,h2,h3,h4] at e
  have HE:=Lib.hid e
  clear e
  go_enter Tryz.func126,Tryz.ntmps126
  go_wp2
  go_ret
  exact⟨by rw[HE.out];first | (simp;done) | (by_cases h:c=95<;>simp [h]),rfl⟩
set_option maxHeartbeats 400000 in
theorem lexDigit_any (c:Int) (w:World):Calls Tryz.prog 182 #[.int .u8 c] w fun e w'=>e=.returned (.bool (digB c))/\w=w':=by
 by_cases h:48<=c<;>by_cases h2:c<=57
 all_goals
  have e:digB c=decide (48<=c/\c<=57):=rfl
  simp only[h,h2] at e
  have HE:=Lib.hid e
  clear e
  go_enter Tryz.func182,Tryz.ntmps182
  go_wp2
  go_ret
  exact⟨by rw[HE.out];simp,rfl⟩
def nameRun (l:List UInt8):Nat:=(l.takeWhile fun c=>letB c.toNat || digB c.toNat).length
theorem nameRun_step {l:List UInt8} {k:Nat} (hk:k<l.length) (hd:(letB (bt l k) || digB (bt l k))=true):nameRun (l.drop k)=1+nameRun (l.drop (k+1)):=by
 unfold nameRun
 rw[List.drop_eq_getElem_cons hk]
 have e:bt l k=(l[k].toNat:Int):=by simp [bt,hk]
 rw[e] at hd
 rw[List.takeWhile_cons,if_pos hd,List.length_cons]
 omega
theorem nameRun_stop {l:List UInt8} {k:Nat} (hk:k<l.length) (hd:(letB (bt l k) || digB (bt l k))=false):nameRun (l.drop k)=0:=by
 unfold nameRun
 rw[List.drop_eq_getElem_cons hk]
 have e:bt l k=(l[k].toNat:Int):=by simp [bt,hk]
 rw[e] at hd
 rw[List.takeWhile_cons,if_neg (by rw[hd];simp)]
 rfl
theorem nameRun_le (l:List UInt8):nameRun l<=l.length:=by
 unfold nameRun
 exact (List.takeWhile_sublist _).length_le
set_option maxHeartbeats 4000000 in
theorem nameEnd_any (s:ByteArray) (i:Nat) (w:World) (hi:i<=s.size) (hs:s.size<=281474976710656) :
 Calls Tryz.prog 127 #[.string s,.int .i64 i] w fun e w'=>e=.returned (.int .i64 ((i+nameRun (s.data.toList.drop i):Nat):Int))/\w=w':=by
 have hsl:s.data.toList.length=s.size:=rfl
 have HSL:=Lib.hid hsl
 clear hsl
 generalize hL:s.data.toList=l at *
 have HL:=Lib.hid hL
 clear hL
 go_enter Tryz.func127,Tryz.ntmps127
 go_wp2_with fail
 go_loop [1] (fun ix=>∃ k:Nat,i<=k/\k<=s.size/\ix=.int .i64 k/\nameRun (l.drop i)+i=k+nameRun (l.drop k)) (fun ix=>s.size - (intOf ix).toNat)
 case atStart=>exact⟨i,Nat.le_refl _,hi,rfl,by omega⟩
 case round =>
  obtain⟨k,hik,hk,rfl,hrel⟩:=hrel
  have HR:=Lib.hid hrel
  clear hrel
  by_cases hlt:k<s.size
  ·have hbt:=bt_of s k hlt
   rw[HL.out] at hbt
   have hkl:k<l.length:=by have:=HSL.out;omega
   by_cases hd:(letB (bt l k) || digB (bt l k))=true
   ·have HST:=Lib.hid (nameRun_step hkl hd)
    by_cases hl1:letB (bt l k)=true
    ·clear hd
     go_wp2_with (go_at_call 126;refine (isLetter_any _ _).mono ?_;rintro e w' ⟨rfl,rfl⟩)
     go_round
     case rel=>exact⟨k+1,by omega,by omega,by go_num,by have:=HST.out;have:=HR.out;omega⟩
     case measure=>simp [intOf];omega
    ·have hl2:letB (bt l k)=false:=by simpa using hl1
     have hd2:digB (bt l k)=true:=by rw[hl2] at hd;simpa using hd
     clear hd hl1
     go_wp2_with (first | (go_at_call 126;refine (isLetter_any _ _).mono ?_;rintro e w' ⟨rfl,rfl⟩) | (go_at_call 182;refine (lexDigit_any _ _).mono ?_;rintro e w' ⟨rfl,rfl⟩))
     go_round
     case rel=>exact⟨k+1,by omega,by omega,by go_num,by have:=HST.out;have:=HR.out;omega⟩
     case measure=>simp [intOf];omega
   ·have hd':(letB (bt l k) || digB (bt l k))=false:=by simpa using hd
    have HE:=Lib.hid (nameRun_stop hkl hd')
    obtain⟨hl2,hd2⟩:=Bool.or_eq_false_iff.1 hd'
    clear hd hd'
    go_wp2_with (first | (go_at_call 126;refine (isLetter_any _ _).mono ?_;rintro e w' ⟨rfl,rfl⟩) | (go_at_call 182;refine (lexDigit_any _ _).mono ?_;rintro e w' ⟨rfl,rfl⟩))
    go_ret
    exact⟨by rw[show i+nameRun (l.drop i)=k by have:=HE.out;have:=HR.out;omega];rfl,rfl⟩
  ·have hke:k=s.size:=by omega
   subst hke
   have HE:Hid (nameRun (l.drop s.size)=0):=Lib.hid (by rw[List.drop_of_length_le (by have:=HSL.out;omega)];rfl)
   go_wp2_with fail
   go_ret
   exact⟨congrArg (fun z=>Ending.returned (Value.int .i64 z)) (by have:=HE.out;have:=HR.out;omega),rfl⟩
def litS (r:List UInt8) (p:Int):Tok × Int :=
 if (scanR r 0).e=0 then (⟨2,r.take (scanR r 0).stop.toNat,(scanR r 0).k,(scanR r 0).n,(scanR r 0).t,p⟩,0) else (tok0,(scanR r 0).e)
def oneS (r:List UInt8) (p:Int):Tok × Int :=
 if bt r 0=58 then (if bt r 1=45 then (⟨3,[58,45],0,0,[],p⟩,0) else (tok0,71))
 else if bt r 0=34∨digB (bt r 0)=true∨bt r 0=45/\digB (bt r 1)=true then litS r p
 else if bt r 0=45∨bt r 0=40∨bt r 0=41∨bt r 0=44∨bt r 0=43 then (⟨3,r.take 1,0,0,[],p⟩,0)
 else if letB (bt r 0)=true then (if 16<nameRun r then (tok0,72) else (⟨1,r.take (nameRun r),0,0,[],p⟩,0))
 else (tok0,71)
def spB (c:Int):Bool:=decide (c=32∨c=9)
structure LxR where
 ts:List Tok
 at_:Int
 e:Int
def lexF:Nat->List UInt8->Nat->LxR
 | 0,_,_=>⟨[],0,0⟩
 | f+1,r,p =>
   if r=[]∨bt r 0=35 then ⟨[endTok (p+r.length)],0,0⟩
   else if spB (bt r 0)=true then lexF f (r.drop 1) (p+1)
   else if (oneS r p).2≠0 then ⟨[],p,(oneS r p).2⟩
   else
    if (lexF f (r.drop (oneS r p).1.x.length) (p+(oneS r p).1.x.length)).e≠0 then lexF f (r.drop (oneS r p).1.x.length) (p+(oneS r p).1.x.length)
    else ⟨(oneS r p).1::(lexF f (r.drop (oneS r p).1.x.length) (p+(oneS r p).1.x.length)).ts,0,0⟩
def LX (r:List UInt8) (p:Nat):LxR:=lexF (r.length+1) r p
def lexR (l:List UInt8):LxR:=if 16384<l.length then ⟨[],0,70⟩ else LX l 0
theorem lit_len {r:List UInt8} {p:Int} (h:(litS r p).2=0) (hr:r≠[]) :
 (scanR r 0).e=0/\1<=(scanR r 0).stop/\(scanR r 0).stop<=r.length:=by
 have he:(scanR r 0).e=0:=by
  unfold litS at h
  split at h
  ·assumption
  ·exact h
 have g:=(scan_good r he).2.2.2.2
 refine⟨he,?_,g⟩
 clear h g
 rw[scan0] at he ⊢
 by_cases hp:Lib.hasPrefix r [34]=true
 ·rw[if_pos hp] at he ⊢
  unfold textR at he ⊢
  cases hs:textScan (r.drop 1) with
  | none=>rw[hs] at he;simp [bad] at he
  | some q =>
    obtain⟨t,n⟩:=q
    rw[hs] at he
    simp only at he ⊢
    by_cases h64:64<t.length
    ·rw[if_pos h64] at he;simp [bad] at he
    ·rw[if_neg h64];simp only;omega
 ·rw[if_neg hp] at he ⊢
  by_cases hn:numAt r=true
  ·rw[if_pos hn] at he ⊢
   unfold numR at he ⊢
   by_cases hz:bt (Lib.trimPrefix (numTok r 0) [45]) 0=48/\1<(numTok r 0).length
   ·rw[if_pos hz] at he;simp [bad] at he
   ·rw[if_neg hz] at he ⊢
    have hlen:=numTok_len (l:=r) (a:=0) (List.length_pos_iff.2 hr)
    cases hpz:Lib.parseIntB 64 (numTok r 0) with
    | ok v=>simp only;omega
    | _=>rw[hpz] at he;simp [bad] at he
  ·rw[if_neg hn] at he;simp [bad] at he
theorem nameRun_pos {r:List UInt8} (hr:r≠[]) (h:letB (bt r 0)=true):1<=nameRun r:=by
 have:=nameRun_step (l:=r) (k:=0) (List.length_pos_iff.2 hr) (by rw[h];rfl)
 rw[List.drop_zero] at this
 omega
theorem bt_cons0 (c:UInt8) (r:List UInt8):bt (c::r) 0=c.toNat:=by simp [bt]
theorem bt_cons1 (c:UInt8) (r:List UInt8) (k:Nat):bt (c::r) (k+1)=bt r k:=by simp [bt]
theorem one_len {r:List UInt8} {p:Int} (h:(oneS r p).2=0) (hr:r≠[]) :
 1<=(oneS r p).1.x.length/\(oneS r p).1.x=r.take (oneS r p).1.x.length/\(oneS r p).1.x.length<=r.length:=by
 have hl:=List.length_pos_iff.2 hr
 unfold oneS at *
 split at h
 ·rename_i h58
  rw[if_pos h58]
  split at h
  ·rename_i h45
   rw[if_pos h45]
   match r,hr with
   | [a],_=>simp [bt] at h45
   | a::b::r,_ =>
     rw[bt_cons0] at h58
     rw[show (1:Nat)=0+1 from rfl,bt_cons1,bt_cons0] at h45
     have ha:a=58:=UInt8.toNat_inj.1 (show a.toNat=58 by omega)
     have hb:b=45:=UInt8.toNat_inj.1 (show b.toNat=45 by omega)
     subst ha hb
     exact⟨by simp,by simp,by simp⟩
  ·simp at h
 ·rename_i h58
  rw[if_neg h58]
  split at h
  ·rename_i hq
   rw[if_pos hq]
   obtain⟨he,h1,h2⟩:=lit_len h hr
   unfold litS
   rw[if_pos he]
   simp only[List.length_take]
   refine⟨by omega,?_,by omega⟩
   rw[Nat.min_eq_left (by omega)]
  ·rename_i hq
   rw[if_neg hq]
   split at h
   ·rename_i hm
    rw[if_pos hm]
    simp only[List.length_take]
    refine⟨by omega,?_,by omega⟩
    rw[Nat.min_eq_left (by omega)]
   ·rename_i hm
    rw[if_neg hm]
    split at h
    ·rename_i ht
     rw[if_pos ht]
     split at h
     ·simp at h
     ·rename_i h16
      rw[if_neg h16]
      have:=nameRun_pos hr ht
      have:=nameRun_le r
      simp only[List.length_take]
      refine⟨by omega,?_,by omega⟩
      rw[Nat.min_eq_left (by omega)]
    ·simp at h
theorem lexF_more:∀ (f g:Nat) (r:List UInt8) (p:Nat),r.length<f->r.length<g->lexF f r p=lexF g r p:=by
 intro f
 induction f with
 | zero=>intro g r p h;omega
 | succ f ih =>
   intro g r p hf hg
   cases g with
   | zero=>omega
   | succ g =>
     unfold lexF
     split
     ·rfl
     ·rename_i h0
      have hr:r≠[]:=fun e=>h0 (.inl e)
      have hl:=List.length_pos_iff.2 hr
      split
      ·exact ih _ _ _ (by rw[List.length_drop];omega) (by rw[List.length_drop];omega)
      ·split
       ·rfl
       ·rename_i h2
        have h3:=(one_len (r:=r) (p:=p) (by simpa using h2) hr).1
        rw[ih g _ _ (by rw[List.length_drop];omega) (by rw[List.length_drop];omega)]
theorem LX_end {r:List UInt8} {p:Nat} (h:r=[]∨bt r 0=35):LX r p=⟨[endTok (p+r.length)],0,0⟩:=by
 unfold LX lexF
 rw[if_pos h]
theorem LX_blank {r:List UInt8} {p:Nat} (h:¬ (r=[]∨bt r 0=35)) (hb:spB (bt r 0)=true):LX r p=LX (r.drop 1) (p+1):=by
 have hl:=List.length_pos_iff.2 (show r≠[] from fun e=>h (.inl e))
 unfold LX
 conv=>lhs;unfold lexF
 rw[if_neg h,if_pos hb]
 exact lexF_more _ _ _ _ (by rw[List.length_drop];omega) (by omega)
theorem LX_bad {r:List UInt8} {p:Nat} (h:¬ (r=[]∨bt r 0=35)) (hb:spB (bt r 0)=false) (he:(oneS r p).2≠0):LX r p=⟨[],p,(oneS r p).2⟩:=by
 unfold LX lexF
 rw[if_neg h,if_neg (by rw[hb];simp),if_pos he]
theorem LX_one {r:List UInt8} {p:Nat} (h:¬ (r=[]∨bt r 0=35)) (hb:spB (bt r 0)=false) (he:(oneS r p).2=0) :
 LX r p=if (LX (r.drop (oneS r p).1.x.length) (p+(oneS r p).1.x.length)).e≠0 then LX (r.drop (oneS r p).1.x.length) (p+(oneS r p).1.x.length)
  else ⟨(oneS r p).1::(LX (r.drop (oneS r p).1.x.length) (p+(oneS r p).1.x.length)).ts,0,0⟩:=by
 have hr:r≠[]:=fun e=>h (.inl e)
 have hl:=List.length_pos_iff.2 hr
 have h3:=(one_len (r:=r) (p:=p) he hr).1
 have e:=lexF_more r.length ((r.drop (oneS r p).1.x.length).length+1) (r.drop (oneS r p).1.x.length) (p+(oneS r p).1.x.length) (by rw[List.length_drop];omega) (by omega)
 unfold LX
 conv=>lhs;unfold lexF
 rw[if_neg h,if_neg (by rw[hb];simp),if_neg (by simpa using he),e]
def LxR.behind (a:LxR) (acc:List Tok):LxR:=if a.e≠0 then a else ⟨acc++a.ts,a.at_,a.e⟩
theorem behind_nil (r:List UInt8) (p:Nat):(LX r p).behind []=LX r p:=by
 unfold LxR.behind
 split
 ·rfl
 ·rfl
theorem LX_ok:∀ (m:Nat) (r:List UInt8) (p:Nat),r.length<=m->((LX r p).e=0->(LX r p).at_=0)/\((LX r p).e≠0->(LX r p).ts=[]):=by
 intro m
 induction m with
 | zero =>
   intro r p h
   have:r=[]:=List.length_eq_zero_iff.1 (by omega)
   subst this
   rw[LX_end (.inl rfl)]
   exact⟨fun _=>rfl,fun h=>absurd rfl h⟩
 | succ m ih =>
   intro r p h
   by_cases h0:r=[]∨bt r 0=35
   ·rw[LX_end h0]
    exact⟨fun _=>rfl,fun h=>absurd rfl h⟩
   ·have hr:r≠[]:=fun e=>h0 (.inl e)
    have hl:=List.length_pos_iff.2 hr
    by_cases hb:spB (bt r 0)=true
    ·rw[LX_blank h0 hb]
     exact ih _ _ (by rw[List.length_drop];omega)
    ·have hb':spB (bt r 0)=false:=by simpa using hb
     by_cases he:(oneS r p).2=0
     ·have h3:=(one_len he hr).1
      have:=ih (r.drop (oneS r p).1.x.length) (p+(oneS r p).1.x.length) (by rw[List.length_drop];omega)
      rw[LX_one h0 hb' he]
      split
      ·exact this
      ·exact⟨fun _=>rfl,fun h=>absurd rfl h⟩
     ·rw[LX_bad h0 hb' he]
      exact⟨fun h=>absurd h he,fun _=>rfl⟩
theorem behind_one {r:List UInt8} {p:Nat} (acc:List Tok) (h:¬ (r=[]∨bt r 0=35)) (hb:spB (bt r 0)=false) (he:(oneS r p).2=0) :
 (LX r p).behind acc=(LX (r.drop (oneS r p).1.x.length) (p+(oneS r p).1.x.length)).behind (acc++[(oneS r p).1]):=by
 rw[LX_one h hb he]
 have hk:=LX_ok _ (r.drop (oneS r p).1.x.length) (p+(oneS r p).1.x.length) (Nat.le_refl _)
 generalize LX (r.drop (oneS r p).1.x.length) (p+(oneS r p).1.x.length)=R at *
 unfold LxR.behind
 by_cases h2:R.e=0
 ·rw[if_neg (show ¬ R.e≠0 by simpa using h2),if_neg (show ¬ R.e≠0 by simpa using h2),if_neg (by simp),hk.1 h2,h2]
  simp
 ·rw[if_pos h2,if_pos h2,if_pos h2]
theorem behind_bad {r:List UInt8} {p:Nat} (acc:List Tok) (h:¬ (r=[]∨bt r 0=35)) (hb:spB (bt r 0)=false) (he:(oneS r p).2≠0):(LX r p).behind acc=⟨[],p,(oneS r p).2⟩:=by
 rw[LX_bad h hb he]
 unfold LxR.behind
 rw[if_pos he]
theorem behind_end {r:List UInt8} {p:Nat} (acc:List Tok) (h:r=[]∨bt r 0=35):(LX r p).behind acc=⟨acc++[endTok (p+r.length)],0,0⟩:=by
 rw[LX_end h]
 unfold LxR.behind
 rw[if_neg (by simp)]
def Behind (y rest:List UInt8):Prop:=bt y 0=bt rest 0∨bt y 0=32∨y=[]
theorem one_kind {r:List UInt8} {p:Int}:(oneS r p).2=0->(oneS r p).1.k≠0/\(oneS r p).1.p=p:=by
 unfold oneS litS
 repeat' split
 all_goals
  intro h
  first
  | exact⟨by simp,rfl⟩
  | (simp at h;done)
  | contradiction
def isNameB (l:List UInt8):Bool:=decide (l≠[]/\letB (bt l 0)=true/\nameRun l=l.length/\l.length<=16)
end Go.Proofs.YtamjadghncnbcaaGreatDoor
