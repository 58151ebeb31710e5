/- lex.isLetter, isDigit, nameEnd, walked. The tokens of a line, plainly: what stands at a place, the whole line; what hangs on what. The laws of tokens, plainly: faults, blanks, tiles, names. lex.one, walked. lex.one at a letter and at what begins no token, walked. lex.one whole; lex.IsName, lex.Tokens, walked. lex.Tokens, walked. osierref07.among, run, IsName, walked. osierref07.IsName. -/
import Derived.Test.YtgopfpjinohncaaGreatDoorShelfZL
import Derived.Test.YtgopfpjinohncaaGreatDoorLbL
import Derived.Lib.Bytealg
import Derived.Deep.RegionHeld3
import Derived.Deep.AppendLies
namespace Go.Proofs.YtgopfpjinohncaaGreatDoor
open Go.RowKit
set_option linter.unusedVariables false
def letB (c:Int):Bool:=decide (97<=c/\c<=122∨65<=c/\c<=90∨c=95)
set_option maxHeartbeats 4000000 in
theorem isLetter_any (c:Int) (w:World):Calls Tryz.prog 152 #[.int .u8 c] w fun e w'=>e=.returned (.bool (letB c))/\w=w':=by
 by_cases h1:97<=c<;>by_cases h2:c<=122<;>by_cases h3:65<=c<;>by_cases h4:c<=90<;>first | (exfalso;omega) | skip
 all_goals
  have e:letB c=decide (97<=c/\c<=122∨65<=c/\c<=90∨c=95):=rfl
  simp only[h1,h2,h3,h4] at e
  have HE:=Lib.hid e
  clear e
  go_enter Tryz.func152,Tryz.ntmps152
  go_wp2
  go_ret
  exact⟨by rw[HE.out];first | (simp;done) | (by_cases h:c=95<;>simp [h]),rfl⟩
set_option maxHeartbeats 400000 in
theorem lexDigit_any (c:Int) (w:World):Calls Tryz.prog 208 #[.int .u8 c] w fun e w'=>e=.returned (.bool (digB c))/\w=w':=by
 by_cases h:48<=c<;>by_cases h2:c<=57
 all_goals
  have e:digB c=decide (48<=c/\c<=57):=rfl
  simp only[h,h2] at e
  have HE:=Lib.hid e
  clear e
  go_enter Tryz.func208,Tryz.ntmps208
  go_wp2
  go_ret
  exact⟨by rw[HE.out];simp,rfl⟩
def nameRun (l:List UInt8):Nat:=(l.takeWhile fun c=>letB c.toNat || digB c.toNat).length
theorem nameRun_step {l:List UInt8} {k:Nat} (hk:k<l.length) (hd:(letB (bt l k) || digB (bt l k))=true):nameRun (l.drop k)=1+nameRun (l.drop (k+1)):=by
 unfold nameRun
 rw[List.drop_eq_getElem_cons hk]
 have e:bt l k=(l[k].toNat:Int):=by simp [bt,hk]
 rw[e] at hd
 rw[List.takeWhile_cons,if_pos hd,List.length_cons]
 omega
theorem nameRun_stop {l:List UInt8} {k:Nat} (hk:k<l.length) (hd:(letB (bt l k) || digB (bt l k))=false):nameRun (l.drop k)=0:=by
 unfold nameRun
 rw[List.drop_eq_getElem_cons hk]
 have e:bt l k=(l[k].toNat:Int):=by simp [bt,hk]
 rw[e] at hd
 rw[List.takeWhile_cons,if_neg (by rw[hd];simp)]
 rfl
theorem nameRun_le (l:List UInt8):nameRun l<=l.length:=by
 unfold nameRun
 exact (List.takeWhile_sublist _).length_le
set_option maxHeartbeats 4000000 in
theorem nameEnd_any (s:ByteArray) (i:Nat) (w:World) (hi:i<=s.size) (hs:s.size<=281474976710656) :
 Calls Tryz.prog 153 #[.string s,.int .i64 i] w fun e w'=>e=.returned (.int .i64 ((i+nameRun (s.data.toList.drop i):Nat):Int))/\w=w':=by
 have hsl:s.data.toList.length=s.size:=rfl
 have HSL:=Lib.hid hsl
 clear hsl
 generalize hL:s.data.toList=l at *
 have HL:=Lib.hid hL
 clear hL
 go_enter Tryz.func153,Tryz.ntmps153
 go_wp2_with fail
 go_loop [1] (fun ix=>∃ k:Nat,i<=k/\k<=s.size/\ix=.int .i64 k/\nameRun (l.drop i)+i=k+nameRun (l.drop k)) (fun ix=>s.size - (intOf ix).toNat)
 case atStart=>exact⟨i,Nat.le_refl _,hi,rfl,by omega⟩
 case round =>
  obtain⟨k,hik,hk,rfl,hrel⟩:=hrel
  have HR:=Lib.hid hrel
  clear hrel
  by_cases hlt:k<s.size
  ·have hbt:=bt_of s k hlt
   rw[HL.out] at hbt
   have hkl:k<l.length:=by have:=HSL.out;omega
   by_cases hd:(letB (bt l k) || digB (bt l k))=true
   ·have HST:=Lib.hid (nameRun_step hkl hd)
    by_cases hl1:letB (bt l k)=true
    ·clear hd
     go_wp2_with (go_at_call 152;refine (isLetter_any _ _).mono ?_;rintro e w' ⟨rfl,rfl⟩)
     go_round
     case rel=>exact⟨k+1,by omega,by omega,by go_num,by have:=HST.out;have:=HR.out;omega⟩
     case measure=>simp [intOf];omega
    ·have hl2:letB (bt l k)=false:=by simpa using hl1
     have hd2:digB (bt l k)=true:=by rw[hl2] at hd;simpa using hd
     clear hd hl1
     go_wp2_with (first | (go_at_call 152;refine (isLetter_any _ _).mono ?_;rintro e w' ⟨rfl,rfl⟩) | (go_at_call 208;refine (lexDigit_any _ _).mono ?_;rintro e w' ⟨rfl,rfl⟩))
     go_round
     case rel=>exact⟨k+1,by omega,by omega,by go_num,by have:=HST.out;have:=HR.out;omega⟩
     case measure=>simp [intOf];omega
   ·have hd':(letB (bt l k) || digB (bt l k))=false:=by simpa using hd
    have HE:=Lib.hid (nameRun_stop hkl hd')
    obtain⟨hl2,hd2⟩:=Bool.or_eq_false_iff.1 hd'
    clear hd hd'
    go_wp2_with (first | (go_at_call 152;refine (isLetter_any _ _).mono ?_;rintro e w' ⟨rfl,rfl⟩) | (go_at_call 208;refine (lexDigit_any _ _).mono ?_;rintro e w' ⟨rfl,rfl⟩))
    go_ret
    exact⟨by rw[show i+nameRun (l.drop i)=k by have:=HE.out;have:=HR.out;omega];rfl,rfl⟩
  ·have hke:k=s.size:=by omega
   subst hke
   have HE:Hid (nameRun (l.drop s.size)=0):=Lib.hid (by rw[List.drop_of_length_le (by have:=HSL.out;omega)];rfl)
   go_wp2_with fail
   go_ret
   exact⟨congrArg (fun z=>Ending.returned (Value.int .i64 z)) (by have:=HE.out;have:=HR.out;omega),rfl⟩
def litS (r:List UInt8) (p:Int):Tok × Int :=
 if (scanR r 0).e=0 then (⟨2,r.take (scanR r 0).stop.toNat,(scanR r 0).k,(scanR r 0).n,(scanR r 0).t,p⟩,0) else (tok0,(scanR r 0).e)
def oneS (r:List UInt8) (p:Int):Tok × Int :=
 if bt r 0=58 then (if bt r 1=45 then (⟨3,[58,45],0,0,[],p⟩,0) else (tok0,71))
 else if bt r 0=34∨digB (bt r 0)=true∨bt r 0=45/\digB (bt r 1)=true then litS r p
 else if bt r 0=45∨bt r 0=40∨bt r 0=41∨bt r 0=44∨bt r 0=43 then (⟨3,r.take 1,0,0,[],p⟩,0)
 else if letB (bt r 0)=true then (if 16<nameRun r then (tok0,72) else (⟨1,r.take (nameRun r),0,0,[],p⟩,0))
 else (tok0,71)
def spB (c:Int):Bool:=decide (c=32∨c=9)
structure LxR where
 ts:List Tok
 at_:Int
 e:Int
def lexF:Nat->List UInt8->Nat->LxR
 | 0,_,_=>⟨[],0,0⟩
 | f+1,r,p =>
   if r=[]∨bt r 0=35 then ⟨[endTok (p+r.length)],0,0⟩
   else if spB (bt r 0)=true then lexF f (r.drop 1) (p+1)
   else if (oneS r p).2≠0 then ⟨[],p,(oneS r p).2⟩
   else
    if (lexF f (r.drop (oneS r p).1.x.length) (p+(oneS r p).1.x.length)).e≠0 then lexF f (r.drop (oneS r p).1.x.length) (p+(oneS r p).1.x.length)
    else ⟨(oneS r p).1::(lexF f (r.drop (oneS r p).1.x.length) (p+(oneS r p).1.x.length)).ts,0,0⟩
def LX (r:List UInt8) (p:Nat):LxR:=lexF (r.length+1) r p
def lexR (l:List UInt8):LxR:=if 16384<l.length then ⟨[],0,70⟩ else LX l 0
theorem lit_len {r:List UInt8} {p:Int} (h:(litS r p).2=0) (hr:r≠[]) :
 (scanR r 0).e=0/\1<=(scanR r 0).stop/\(scanR r 0).stop<=r.length:=by
 have he:(scanR r 0).e=0:=by
  unfold litS at h
  split at h
  ·assumption
  ·exact h
 have g:=(scan_good r he).2.2.2.2
 refine⟨he,?_,g⟩
 clear h g
 rw[scan0] at he ⊢
 by_cases hp:Lib.hasPrefix r [34]=true
 ·rw[if_pos hp] at he ⊢
  unfold textR at he ⊢
  cases hs:textScan (r.drop 1) with
  | none=>rw[hs] at he;simp [bad] at he
  | some q =>
    obtain⟨t,n⟩:=q
    rw[hs] at he
    simp only at he ⊢
    by_cases h64:64<t.length
    ·rw[if_pos h64] at he;simp [bad] at he
    ·rw[if_neg h64];simp only;omega
 ·rw[if_neg hp] at he ⊢
  by_cases hn:numAt r=true
  ·rw[if_pos hn] at he ⊢
   unfold numR at he ⊢
   by_cases hz:bt (Lib.trimPrefix (numTok r 0) [45]) 0=48/\1<(numTok r 0).length
   ·rw[if_pos hz] at he;simp [bad] at he
   ·rw[if_neg hz] at he ⊢
    have hlen:=numTok_len (l:=r) (a:=0) (List.length_pos_iff.2 hr)
    cases hpz:Lib.parseIntB 64 (numTok r 0) with
    | ok v=>simp only;omega
    | _=>rw[hpz] at he;simp [bad] at he
  ·rw[if_neg hn] at he;simp [bad] at he
theorem nameRun_pos {r:List UInt8} (hr:r≠[]) (h:letB (bt r 0)=true):1<=nameRun r:=by
 have:=nameRun_step (l:=r) (k:=0) (List.length_pos_iff.2 hr) (by rw[h];rfl)
 rw[List.drop_zero] at this
 omega
theorem bt_cons0 (c:UInt8) (r:List UInt8):bt (c::r) 0=c.toNat:=by simp [bt]
theorem bt_cons1 (c:UInt8) (r:List UInt8) (k:Nat):bt (c::r) (k+1)=bt r k:=by simp [bt]
theorem one_len {r:List UInt8} {p:Int} (h:(oneS r p).2=0) (hr:r≠[]) :
 1<=(oneS r p).1.x.length/\(oneS r p).1.x=r.take (oneS r p).1.x.length/\(oneS r p).1.x.length<=r.length:=by
 have hl:=List.length_pos_iff.2 hr
 unfold oneS at *
 split at h
 ·rename_i h58
  rw[if_pos h58]
  split at h
  ·rename_i h45
   rw[if_pos h45]
   match r,hr with
   | [a],_=>simp [bt] at h45
   | a::b::r,_ =>
     rw[bt_cons0] at h58
     rw[show (1:Nat)=0+1 from rfl,bt_cons1,bt_cons0] at h45
     have ha:a=58:=UInt8.toNat_inj.1 (show a.toNat=58 by omega)
     have hb:b=45:=UInt8.toNat_inj.1 (show b.toNat=45 by omega)
     subst ha hb
     exact⟨by simp,by simp,by simp⟩
  ·simp at h
 ·rename_i h58
  rw[if_neg h58]
  split at h
  ·rename_i hq
   rw[if_pos hq]
   obtain⟨he,h1,h2⟩:=lit_len h hr
   unfold litS
   rw[if_pos he]
   simp only[List.length_take]
   refine⟨by omega,?_,by omega⟩
   rw[Nat.min_eq_left (by omega)]
  ·rename_i hq
   rw[if_neg hq]
   split at h
   ·rename_i hm
    rw[if_pos hm]
    simp only[List.length_take]
    refine⟨by omega,?_,by omega⟩
    rw[Nat.min_eq_left (by omega)]
   ·rename_i hm
    rw[if_neg hm]
    split at h
    ·rename_i ht
     rw[if_pos ht]
     split at h
     ·simp at h
     ·rename_i h16
      rw[if_neg h16]
      have:=nameRun_pos hr ht
      have:=nameRun_le r
      simp only[List.length_take]
      refine⟨by omega,?_,by omega⟩
      rw[Nat.min_eq_left (by omega)]
    ·simp at h
theorem lexF_more:∀ (f g:Nat) (r:List UInt8) (p:Nat),r.length<f->r.length<g->lexF f r p=lexF g r p:=by
 intro f
 induction f with
 | zero=>intro g r p h;omega
 | succ f ih =>
   intro g r p hf hg
   cases g with
   | zero=>omega
   | succ g =>
     unfold lexF
     split
     ·rfl
     ·rename_i h0
      have hr:r≠[]:=fun e=>h0 (.inl e)
      have hl:=List.length_pos_iff.2 hr
      split
      ·exact ih _ _ _ (by rw[List.length_drop];omega) (by rw[List.length_drop];omega)
      ·split
       ·rfl
       ·rename_i h2
        have h3:=(one_len (r:=r) (p:=p) (by simpa using h2) hr).1
        rw[ih g _ _ (by rw[List.length_drop];omega) (by rw[List.length_drop];omega)]
theorem LX_end {r:List UInt8} {p:Nat} (h:r=[]∨bt r 0=35):LX r p=⟨[endTok (p+r.length)],0,0⟩:=by
 unfold LX lexF
 rw[if_pos h]
theorem LX_blank {r:List UInt8} {p:Nat} (h:¬ (r=[]∨bt r 0=35)) (hb:spB (bt r 0)=true):LX r p=LX (r.drop 1) (p+1):=by
 have hl:=List.length_pos_iff.2 (show r≠[] from fun e=>h (.inl e))
 unfold LX
 conv=>lhs;unfold lexF
 rw[if_neg h,if_pos hb]
 exact lexF_more _ _ _ _ (by rw[List.length_drop];omega) (by omega)
theorem LX_bad {r:List UInt8} {p:Nat} (h:¬ (r=[]∨bt r 0=35)) (hb:spB (bt r 0)=false) (he:(oneS r p).2≠0):LX r p=⟨[],p,(oneS r p).2⟩:=by
 unfold LX lexF
 rw[if_neg h,if_neg (by rw[hb];simp),if_pos he]
theorem LX_one {r:List UInt8} {p:Nat} (h:¬ (r=[]∨bt r 0=35)) (hb:spB (bt r 0)=false) (he:(oneS r p).2=0) :
 LX r p=if (LX (r.drop (oneS r p).1.x.length) (p+(oneS r p).1.x.length)).e≠0 then LX (r.drop (oneS r p).1.x.length) (p+(oneS r p).1.x.length)
  else ⟨(oneS r p).1::(LX (r.drop (oneS r p).1.x.length) (p+(oneS r p).1.x.length)).ts,0,0⟩:=by
 have hr:r≠[]:=fun e=>h (.inl e)
 have hl:=List.length_pos_iff.2 hr
 have h3:=(one_len (r:=r) (p:=p) he hr).1
 have e:=lexF_more r.length ((r.drop (oneS r p).1.x.length).length+1) (r.drop (oneS r p).1.x.length) (p+(oneS r p).1.x.length) (by rw[List.length_drop];omega) (by omega)
 unfold LX
 conv=>lhs;unfold lexF
 rw[if_neg h,if_neg (by rw[hb];simp),if_neg (by simpa using he),e]
def LxR.behind (a:LxR) (acc:List Tok):LxR:=if a.e≠0 then a else ⟨acc++a.ts,a.at_,a.e⟩
theorem behind_nil (r:List UInt8) (p:Nat):(LX r p).behind []=LX r p:=by
 unfold LxR.behind
 split
 ·rfl
 ·rfl
theorem LX_ok:∀ (m:Nat) (r:List UInt8) (p:Nat),r.length<=m->((LX r p).e=0->(LX r p).at_=0)/\((LX r p).e≠0->(LX r p).ts=[]):=by
 intro m
 induction m with
 | zero =>
   intro r p h
   have:r=[]:=List.length_eq_zero_iff.1 (by omega)
   subst this
   rw[LX_end (.inl rfl)]
   exact⟨fun _=>rfl,fun h=>absurd rfl h⟩
 | succ m ih =>
   intro r p h
   by_cases h0:r=[]∨bt r 0=35
   ·rw[LX_end h0]
    exact⟨fun _=>rfl,fun h=>absurd rfl h⟩
   ·have hr:r≠[]:=fun e=>h0 (.inl e)
    have hl:=List.length_pos_iff.2 hr
    by_cases hb:spB (bt r 0)=true
    ·rw[LX_blank h0 hb]
     exact ih _ _ (by rw[List.length_drop];omega)
    ·have hb':spB (bt r 0)=false:=by simpa using hb
     by_cases he:(oneS r p).2=0
     ·have h3:=(one_len he hr).1
      have:=ih (r.drop (oneS r p).1.x.length) (p+(oneS r p).1.x.length) (by rw[List.length_drop];omega)
      rw[LX_one h0 hb' he]
      split
      ·exact this
      ·exact⟨fun _=>rfl,fun h=>absurd rfl h⟩
     ·rw[LX_bad h0 hb' he]
      exact⟨fun h=>absurd h he,fun _=>rfl⟩
theorem behind_one {r:List UInt8} {p:Nat} (acc:List Tok) (h:¬ (r=[]∨bt r 0=35)) (hb:spB (bt r 0)=false) (he:(oneS r p).2=0) :
 (LX r p).behind acc=(LX (r.drop (oneS r p).1.x.length) (p+(oneS r p).1.x.length)).behind (acc++[(oneS r p).1]):=by
 rw[LX_one h hb he]
 have hk:=LX_ok _ (r.drop (oneS r p).1.x.length) (p+(oneS r p).1.x.length) (Nat.le_refl _)
 generalize LX (r.drop (oneS r p).1.x.length) (p+(oneS r p).1.x.length)=R at *
 unfold LxR.behind
 by_cases h2:R.e=0
 ·rw[if_neg (show ¬ R.e≠0 by simpa using h2),if_neg (show ¬ R.e≠0 by simpa using h2),if_neg (by simp),hk.1 h2,h2]
  simp
 ·rw[if_pos h2,if_pos h2,if_pos h2]
theorem behind_bad {r:List UInt8} {p:Nat} (acc:List Tok) (h:¬ (r=[]∨bt r 0=35)) (hb:spB (bt r 0)=false) (he:(oneS r p).2≠0):(LX r p).behind acc=⟨[],p,(oneS r p).2⟩:=by
 rw[LX_bad h hb he]
 unfold LxR.behind
 rw[if_pos he]
theorem behind_end {r:List UInt8} {p:Nat} (acc:List Tok) (h:r=[]∨bt r 0=35):(LX r p).behind acc=⟨acc++[endTok (p+r.length)],0,0⟩:=by
 rw[LX_end h]
 unfold LxR.behind
 rw[if_neg (by simp)]
def isNameB (l:List UInt8):Bool:=decide (l≠[]/\letB (bt l 0)=true/\nameRun l=l.length/\l.length<=16)
theorem drop0 (l:List UInt8) (i:Nat):bt (l.drop i) 0=bt l i:=by rw[bt_drop];rfl
theorem drop1 (l:List UInt8) (i:Nat):bt (l.drop i) 1=bt l (i+1):=by rw[bt_drop]
theorem take_extract (s:ByteArray) (i m:Nat):(s.data.toList.drop i).take m=(s.extract i (i+m)).data.toList:=by simp
def OneOk (s:ByteArray) (i:Nat) (w:World):Prop :=
 Calls Tryz.prog 179 #[.string s,.int .i64 i] w fun e w'=>e=.returned (.tuple #[(oneS (s.data.toList.drop i) i).1.v,.int .i64 (oneS (s.data.toList.drop i) i).2])/\Below w.heap.size w w'
set_option maxHeartbeats 8000000 in
set_option maxRecDepth 100000 in
theorem one_mark (s:ByteArray) (i:Nat) (w:World) (hi:i<s.size) (hs:s.size<=140737488355328) (hg:Glob w)
 (hc:bt s.data.toList i=40∨bt s.data.toList i=41∨bt s.data.toList i=44∨bt s.data.toList i=43):OneOk s i w:=by
 unfold OneOk
 have hE:oneS (s.data.toList.drop i) i=(⟨3,(s.extract i (i+1)).data.toList,0,0,[],i⟩,0):=by
  unfold oneS
  rw[drop0,drop1,if_neg (by omega),if_neg (by
   have:digB (bt s.data.toList i)=false:=by rcases hc with h | h | h | h<;>rw[h]<;>rfl
   rw[this];simp;omega),if_pos (.inr hc),take_extract]
 have hbt:=bt_of s i hi
 have hbt1:∀ h:i+1<s.size,((s[i+1]'h).toNat:Int)=bt s.data.toList (i+1):=bt_of s (i+1)
 have HB0:=Lib.hid (show Below w.heap.size w (w.alloc (.cells #[.int .i64 3,.string (s.extract i (i+1)),.int .i64 0,.int .i64 0,.string ⟨#[]⟩,.int .i64 i] 122)) from balloc (Below.refl _ _) _)
 have hsl:s.data.toList.length=s.size:=rfl
 have hle:(i:Int)+1<=s.size:=by omega
 have HE:=Lib.hid hE
 clear hE hg
 generalize hL:s.data.toList=l at *
 have HL:=Lib.hid hL
 have HSL:=Lib.hid hsl
 clear hL hsl
 by_cases h1:i+1<s.size
 all_goals
  have h1':=h1
  rcases hc with h | h | h | h
 all_goals
  rw[h] at hbt
  clear h
  go_enter Tryz.func179,Tryz.ntmps179
  go_wp2_with fail
  refine bodyPost_ret (v:=.tuple #[.agg #[.int .i64 3,.string (s.extract i (i+1)),.int .i64 0,.int .i64 0,.string ⟨#[]⟩,.int .i64 i],.int .i64 0]) (by simp [results,Tryz.results179,go_sem, *]) rfl ⟨by rw[HE.out];rfl,HB0.out⟩
structure Far (c:Int):Prop where
 a0:(c == 58)=false
 a1:(c == 45)=false
 a2:(c == 40)=false
 a3:(c == 41)=false
 a4:(c == 44)=false
 a5:(c == 43)=false
 a6:(c == 34)=false
 b0:(c == 48)=false
 b1:(c == 49)=false
 b2:(c == 50)=false
 b3:(c == 51)=false
 b4:(c == 52)=false
 b5:(c == 53)=false
 b6:(c == 54)=false
 b7:(c == 55)=false
 b8:(c == 56)=false
 b9:(c == 57)=false
theorem far_of {c:Int} (h:c≠58/\c≠45/\c≠40/\c≠41/\c≠44/\c≠43/\c≠34/\digB c=false):Far c:=by
 obtain⟨h0,h1,h2,h3,h4,h5,h6,h7⟩:=h
 simp only[digB,decide_eq_false_iff_not] at h7
 constructor<;>(rw[beq_eq_false_iff_ne];omega)
theorem let_far {c:Int} (h:letB c=true):c≠58/\c≠45/\c≠40/\c≠41/\c≠44/\c≠43/\c≠34/\digB c=false:=by
 simp only[letB,digB,decide_eq_true_eq,decide_eq_false_iff_not] at h ⊢
 omega
theorem Tryz.infoTok:(Tryz.prog.info? 122).map (fun i=>(i.zero,i.size,i.bytes))=some (some (.agg #[.int .i64 0,.string ⟨#[]⟩,.int .i64 0,.int .i64 0,.string ⟨#[]⟩,.int .i64 0]),6,64):=by kernel_rfl
set_option maxHeartbeats 8000000 in
set_option maxRecDepth 100000 in
theorem isName_any (s:ByteArray) (w:World) (hs:s.size<=140737488355328) :
 Calls Tryz.prog 71 #[.string s] w fun e w'=>e=.returned (.bool (isNameB s.data.toList))/\w=w':=by
 have hsl:s.data.toList.length=s.size:=rfl
 by_cases h0:s.size=0
 ·have hd:s.data.toList=[]:=List.length_eq_zero_iff.1 (by omega)
  have hE:isNameB s.data.toList=false:=by unfold isNameB;simp [hd]
  obtain rfl:s=ByteArray.empty:=by
   apply ByteArray.ext
   exact Array.size_eq_zero_iff.1 h0
  have HE:=Lib.hid hE
  clear hE hsl hd
  go_enter Tryz.func71,Tryz.ntmps71
  go_wp2_with fail
  go_ret
  exact⟨by rw[HE.out];rfl,rfl⟩
 ·have h0':0<s.size:=by omega
  have hbt:=bt_of s 0 h0'
  have hne:=nameEnd_any s 0 w (by omega) (by omega)
  rw[List.drop_zero,Nat.zero_add] at hne
  have hE:isNameB s.data.toList=(letB (bt s.data.toList 0) && (decide (nameRun s.data.toList=s.size) && decide (s.size<=16))):=by
   unfold isNameB
   rw[hsl]
   have:s.data.toList≠[]:=fun e=>by rw[e] at hsl;simp at hsl;omega
   by_cases a:letB (bt s.data.toList 0)=true<;>by_cases b:nameRun s.data.toList=s.size<;>by_cases c:s.size<=16<;>simp [this,a,b,c]
  rw[hE]
  have hem:s.toList.isEmpty=false:=by
   rw[ByteArray.toList_eq]
   cases h:s.data.toList with
   | nil=>rw[h] at hsl;simp at hsl;omega
   | cons _ _=>rfl
  have HNE:=Lib.hid hne
  clear hE hne hsl
  generalize nameRun s.data.toList=n at *
  have q16:decide ((s.size:Int)<=16)=decide (s.size<=16):=decide_eq_decide.2 (by omega)
  cases hl:letB (bt s.data.toList 0) with
  | false =>
    go_enter Tryz.func71,Tryz.ntmps71
    go_wp2_with (go_at_call 152;refine (isLetter_any _ _).mono ?_;rintro e w' ⟨rfl,rfl⟩)
    go_ret
    exact⟨rfl,rfl⟩
  | true =>
    by_cases hn:n=s.size
    ·have qn:((n:Int) == (s.size:Int))=true:=by simp [hn]
     rw[decide_eq_true hn]
     clear hn
     go_enter Tryz.func71,Tryz.ntmps71
     go_wp2_with (first | (go_at_call 152;refine (isLetter_any _ _).mono ?_;rintro e w' ⟨rfl,rfl⟩) | (go_at_call 153;refine HNE.out.mono ?_;rintro e w' ⟨rfl,rfl⟩))
     go_ret
     exact⟨rfl,rfl⟩
    ·have qn:((n:Int) == (s.size:Int))=false:=by rw[beq_eq_false_iff_ne];omega
     rw[decide_eq_false hn]
     clear hn
     go_enter Tryz.func71,Tryz.ntmps71
     go_wp2_with (first | (go_at_call 152;refine (isLetter_any _ _).mono ?_;rintro e w' ⟨rfl,rfl⟩) | (go_at_call 153;refine HNE.out.mono ?_;rintro e w' ⟨rfl,rfl⟩))
     go_ret
     exact⟨rfl,rfl⟩
def TokPost (e:TypeId) (w:World) (R:LxR) (x:Ending) (w':World):Prop :=
 ∃ a cap,x=.returned (.tuple #[.slice a R.ts.length cap,.int .i64 R.at_,.int .i64 R.e])/\w'.ownsRow w.heap.size e 6 (.slice a R.ts.length cap) R.ts.length (tcells R.ts)/\Below w.heap.size w w'
theorem tok_one (t:Tok):∀ u∈t.cells,u.oneCell'=true:=by
 intro u hu
 simp [Tok.cells] at hu
 rcases hu with rfl | rfl | rfl | rfl | rfl | rfl<;>rfl
theorem blk_new1 (w:World) (o:Obj) (t:TypeId) (cs:Array Value):Blk ((w.alloc o).alloc (.cells cs t)) (w.heap.size+1) t cs:=by
 have h:=Blk.new (w.alloc o) t cs
 simpa using h
theorem spB_of {c:Int} (h:c=32∨c=9):spB c=true:=by unfold spB;exact decide_eq_true h
theorem spB_not {c:Int} (h:¬ (c=32∨c=9)):spB c=false:=by unfold spB;exact decide_eq_false h
def amongB (l:List UInt8) (c:Int):Bool:=l.any fun d=>(d.toNat:Int) == c
theorem amongB_step {l:List UInt8} {k:Nat} (c:Int) (hk:k<l.length):amongB (l.drop k) c=((bt l k == c) || amongB (l.drop (k+1)) c):=by
 unfold amongB
 rw[List.drop_eq_getElem_cons hk,List.any_cons]
 have e:bt l k=(l[k].toNat:Int):=by simp [bt,hk]
 rw[e]
set_option maxHeartbeats 4000000 in
theorem among_any (c:Int) (s:ByteArray) (w:World) (hs:s.size<=281474976710656) :
 Calls Tryz.prog 187 #[.int .u8 c,.string s] w fun e w'=>e=.returned (.bool (amongB s.data.toList c))/\w=w':=by
 have hsl:s.data.toList.length=s.size:=rfl
 have HSL:=Lib.hid hsl
 clear hsl
 generalize hL:s.data.toList=l at *
 have HL:=Lib.hid hL
 clear hL
 go_enter Tryz.func187,Tryz.ntmps187
 go_wp2_with fail
 go_loop [5] (fun ix=>∃ k:Nat,k<=s.size/\ix=.int .i64 k/\amongB (l.drop k) c=amongB l c) (fun ix=>s.size - (intOf ix).toNat)
 case atStart=>exact⟨0,Nat.zero_le _,rfl,rfl⟩
 case round =>
  obtain⟨k,hk,rfl,hrel⟩:=hrel
  have HR:=Lib.hid hrel
  clear hrel
  by_cases hlt:k<s.size
  ·have hbt:=bt_of s k hlt
   rw[HL.out] at hbt
   have hkl:k<l.length:=by have:=HSL.out;omega
   have hst:=amongB_step c hkl
   by_cases hq:bt l k=c
   ·have q:(bt l k == c)=true:=by simpa using hq
    rw[q,Bool.true_or] at hst
    have HE:Hid (amongB l c=true):=Lib.hid (by rw[<-HR.out,hst])
    clear hst hq
    go_wp2_with fail
    go_ret
    exact⟨by rw[HE.out];rfl,rfl⟩
   ·have q:(bt l k == c)=false:=by simpa using hq
    rw[q,Bool.false_or] at hst
    have HE:Hid (amongB (l.drop (k+1)) c=amongB l c):=Lib.hid (by rw[<-HR.out,hst])
    clear hst hq
    go_wp2_with fail
    go_round
    case rel=>exact⟨k+1,by omega,by go_num,HE.out⟩
    case measure=>simp [intOf];omega
  ·have hke:k=s.size:=by omega
   subst hke
   have HE:Hid (amongB l c=false):=Lib.hid (by rw[<-HR.out,List.drop_of_length_le (by have:=HSL.out;omega)];rfl)
   go_wp2_with fail
   go_ret
   exact⟨by rw[HE.out];rfl,rfl⟩
def runB (st l:List UInt8):Nat:=(l.takeWhile fun c=>amongB st c.toNat).length
theorem runB_step {st l:List UInt8} {k:Nat} (hk:k<l.length) (hd:amongB st (bt l k)=true):runB st (l.drop k)=1+runB st (l.drop (k+1)):=by
 unfold runB
 rw[List.drop_eq_getElem_cons hk]
 have e:bt l k=(l[k].toNat:Int):=by simp [bt,hk]
 rw[e] at hd
 rw[List.takeWhile_cons,if_pos hd,List.length_cons]
 omega
theorem runB_stop {st l:List UInt8} {k:Nat} (hk:k<l.length) (hd:amongB st (bt l k)=false):runB st (l.drop k)=0:=by
 unfold runB
 rw[List.drop_eq_getElem_cons hk]
 have e:bt l k=(l[k].toNat:Int):=by simp [bt,hk]
 rw[e] at hd
 rw[List.takeWhile_cons,if_neg (by rw[hd];simp)]
 rfl
set_option maxHeartbeats 4000000 in
theorem run_any (s:ByteArray) (i:Nat) (st:ByteArray) (w:World) (hi:i<=s.size) (hs:s.size<=281474976710656) (hst:st.size<=281474976710656) :
 Calls Tryz.prog 186 #[.string s,.int .i64 i,.string st] w fun e w'=>e=.returned (.int .i64 (runB st.data.toList (s.data.toList.drop i):Nat))/\w=w':=by
 have hsl:s.data.toList.length=s.size:=rfl
 have HSL:=Lib.hid hsl
 have HAM:=Lib.hid (fun c W=>among_any c st W hst)
 clear hsl
 generalize hL:s.data.toList=l at *
 have HL:=Lib.hid hL
 clear hL
 generalize st.data.toList=sl at *
 go_enter Tryz.func186,Tryz.ntmps186
 go_wp2_with fail
 go_loop [7] (fun ix=>∃ k:Nat,i+k<=s.size/\ix=.int .i64 k/\runB sl (l.drop i)=k+runB sl (l.drop (i+k))) (fun ix=>s.size - (intOf ix).toNat)
 case atStart=>exact⟨0,by omega,rfl,by simp⟩
 case round =>
  obtain⟨k,hk,rfl,hrel⟩:=hrel
  have HR:=Lib.hid hrel
  clear hrel
  by_cases hlt:i+k<s.size
  ·have hlt':(i:Int)+(k:Int)<(s.size:Int):=by omega
   have hbt:=bt_of s (i+k) hlt
   rw[HL.out] at hbt
   have hkl:i+k<l.length:=by have:=HSL.out;omega
   have htn:((i:Int)+(k:Int)).toNat=i+k:=by omega
   have h0:0<=(i:Int)+(k:Int):=by omega
   cases hq:amongB sl (bt l (i+k)) with
   | true =>
     have HE:=Lib.hid (runB_step hkl hq)
     go_wp2_with (go_at_call 187;refine (HAM.out _ _).mono ?_;rintro e w' ⟨rfl,rfl⟩)
     go_round
     case rel=>exact⟨k+1,by omega,by go_num,by have h1:=HE.out;have h2:=HR.out;rw[h2,h1,Nat.add_assoc i k 1];omega⟩
     case measure=>simp [intOf];omega
   | false =>
     have HE:Hid (runB sl (l.drop i)=k):=Lib.hid (by have h1:=HR.out;rw[runB_stop hkl hq] at h1;omega)
     go_wp2_with (go_at_call 187;refine (HAM.out _ _).mono ?_;rintro e w' ⟨rfl,rfl⟩)
     go_ret
     exact⟨by rw[HE.out];rfl,rfl⟩
  ·have hke:¬ (i:Int)+(k:Int)<(s.size:Int):=by omega
   have HE:Hid (runB sl (l.drop i)=k):=Lib.hid (by
    have h1:=HR.out
    rw[List.drop_of_length_le (show l.length<=i+k by have:=HSL.out;omega)] at h1
    exact h1)
   go_wp2_with fail
   go_ret
   exact⟨by rw[HE.out];rfl,rfl⟩
def setL:List UInt8:=[97,98,99,100,101,102,103,104,105,106,107,108,109,110,111,112,113,114,115,116,117,118,119,120,121,122,65,66,67,68,69,70,71,72,73,74,75,76,77,78,79,80,81,82,83,84,85,86,87,88,89,90,95]
def setD:List UInt8:=[48,49,50,51,52,53,54,55,56,57]
theorem of_fin {P:Int->Prop} (h:∀ u:Fin 256,P (u.val:Int)) {c:Int} (h0:0<=c) (h1:c<=255):P c:=by
 have:=h ⟨c.toNat,by omega⟩
 simpa [Int.toNat_of_nonneg h0] using this
theorem among_digits {c:Int} (h0:0<=c) (h1:c<=255):amongB setD c=digB c:=of_fin (P:=fun c=>amongB setD c=digB c) (by decide +kernel) h0 h1
theorem among_names {c:Int} (h0:0<=c) (h1:c<=255):amongB (setL++setD) c=(letB c || digB c):=of_fin (P:=fun c=>amongB (setL++setD) c=(letB c || digB c)) (by decide +kernel) h0 h1
theorem run_names (l:List UInt8):runB (setL++setD) l=nameRun l:=by
 unfold runB nameRun
 have:(fun c:UInt8=>amongB (setL++setD) c.toNat)=fun c:UInt8=>letB c.toNat || digB c.toNat:=by
  funext c
  exact among_names (by omega) (by have:=c.toNat_lt;omega)
 rw[this]
set_option maxHeartbeats 8000000 in
set_option maxRecDepth 100000 in
theorem refName_any (s:ByteArray) (w:World) (hs:s.size<=281474976710656) :
 Calls Tryz.prog 121 #[.string s] w fun e w'=>e=.returned (.bool (isNameB s.data.toList))/\w=w':=by
 have hsl:s.data.toList.length=s.size:=rfl
 have hE:isNameB s.data.toList=(decide (1<=s.size) && decide (s.size<=16) && !(amongB setD (bt s.data.toList 0)) && decide (nameRun s.data.toList=s.size)):=by
  have hb:=bt_bd s.data.toList 0
  rw[among_digits hb.1 hb.2]
  unfold isNameB
  rw[hsl]
  by_cases h1:1<=s.size
  ·have hne:s.data.toList≠[]:=fun e=>by rw[e] at hsl;simp at hsl;omega
   by_cases hn:nameRun s.data.toList=s.size
   ·have hld:letB (bt s.data.toList 0) = !(digB (bt s.data.toList 0)):=by
     cases hd:(letB (bt s.data.toList 0) || digB (bt s.data.toList 0)) with
     | false =>
       have:=nameRun_stop (l:=s.data.toList) (k:=0) (by omega) hd
       rw[List.drop_zero] at this
       omega
     | true =>
       cases hdd:digB (bt s.data.toList 0) with
       | true =>
         simp only[digB,decide_eq_true_eq] at hdd
         simp only[letB,Bool.not_true,decide_eq_false_iff_not]
         omega
       | false=>rw[hdd,Bool.or_false] at hd;rw[hd];rfl
    by_cases h16:s.size<=16<;>cases hdd:digB (bt s.data.toList 0)<;>rw[hdd] at hld<;>simp [h1,hn,h16,hld,hne]
   ·simp [hn]
  ·have hd:s.data.toList=[]:=List.length_eq_zero_iff.1 (by omega)
   simp [h1,hd]
 have hrn:=fun W=>run_any s 0 ⟨#[97,98,99,100,101,102,103,104,105,106,107,108,109,110,111,112,113,114,115,116,117,118,119,120,121,122,65,66,67,68,69,70,71,72,73,74,75,76,77,78,79,80,81,82,83,84,85,86,87,88,89,90,95,48,49,50,51,52,53,54,55,56,57]⟩ W (Nat.zero_le _) hs (by decide)
 rw[List.drop_zero,show (ByteArray.mk #[97,98,99,100,101,102,103,104,105,106,107,108,109,110,111,112,113,114,115,116,117,118,119,120,121,122,65,66,67,68,69,70,71,72,73,74,75,76,77,78,79,80,81,82,83,84,85,86,87,88,89,90,95,48,49,50,51,52,53,54,55,56,57]).data.toList=setL++setD from rfl,run_names] at hrn
 have ham:=fun c W=>among_any c ⟨#[48,49,50,51,52,53,54,55,56,57]⟩ W (by decide)
 rw[show (ByteArray.mk #[48,49,50,51,52,53,54,55,56,57]).data.toList=setD from rfl] at ham
 rw[hE]
 have HRN:=Lib.hid hrn
 have HAM:=Lib.hid ham
 clear hE hrn ham hsl
 generalize nameRun s.data.toList=n at *
 by_cases h1:1<=s.size
 ·have hbt:=bt_of s 0 h1
  generalize bt s.data.toList 0=c at *
  rw[decide_eq_true h1,Bool.true_and]
  by_cases h16:s.size<=16
  ·rw[decide_eq_true h16,Bool.true_and]
   cases ha:amongB setD c with
   | true =>
     go_enter Tryz.func121,Tryz.ntmps121
     go_wp2_with (first | (go_at_call 187;refine (HAM.out _ _).mono ?_;rintro e w' ⟨rfl,rfl⟩) | (go_at_call 186;refine (HRN.out _).mono ?_;rintro e w' ⟨rfl,rfl⟩))
     go_ret
     exact⟨rfl,rfl⟩
   | false =>
     by_cases hn:n=s.size
     ·have qn:((n:Int) == (s.size:Int))=true:=by simp [hn]
      rw[decide_eq_true hn]
      clear hn
      go_enter Tryz.func121,Tryz.ntmps121
      go_wp2_with (first | (go_at_call 187;refine (HAM.out _ _).mono ?_;rintro e w' ⟨rfl,rfl⟩) | (go_at_call 186;refine (HRN.out _).mono ?_;rintro e w' ⟨rfl,rfl⟩))
      go_ret
      exact⟨rfl,rfl⟩
     ·have qn:((n:Int) == (s.size:Int))=false:=by rw[beq_eq_false_iff_ne];omega
      rw[decide_eq_false hn]
      clear hn
      go_enter Tryz.func121,Tryz.ntmps121
      go_wp2_with (first | (go_at_call 187;refine (HAM.out _ _).mono ?_;rintro e w' ⟨rfl,rfl⟩) | (go_at_call 186;refine (HRN.out _).mono ?_;rintro e w' ⟨rfl,rfl⟩))
      go_ret
      exact⟨rfl,rfl⟩
  ·rw[decide_eq_false h16,Bool.false_and]
   go_enter Tryz.func121,Tryz.ntmps121
   go_wp2_with fail
   go_ret
   exact⟨rfl,rfl⟩
 ·rw[decide_eq_false h1,Bool.false_and]
  go_enter Tryz.func121,Tryz.ntmps121
  go_wp2_with fail
  go_ret
  exact⟨rfl,rfl⟩
end Go.Proofs.YtgopfpjinohncaaGreatDoor
