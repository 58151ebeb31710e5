/- osierlaw07.awake, walked; how told tokens lie. osierlaw07.LexFaults, walked. osierref07.among, run, IsName, walked. -/
import Derived.Test.YtamjadghncnbcaaGreatDoorLxW
import Derived.Test.YtamjadghncnbcaaGreatDoorLcW
import Derived.KernelRfl
import Derived.Laws.OwnMore
import Derived.BigQuiet
namespace Go.Proofs.YtamjadghncnbcaaGreatDoor
open Go.RowKit
set_option linter.unusedVariables false
theorem lexR_short {l:List UInt8} (h:l.length<=16384):lexR l=LX l 0:=by unfold lexR;rw[if_neg (by omega)]
theorem lexR_long {l:List UInt8} (h:16384<l.length):lexR l=⟨[],0,70⟩:=by unfold lexR;rw[if_pos h]
theorem LX_count:∀ (m:Nat) (r:List UInt8) (p:Nat),r.length<=m->(LX r p).ts.length<=r.length+1:=by
 intro m
 induction m with
 | zero =>
   intro r p h
   have:r=[]:=List.length_eq_zero_iff.1 (by omega)
   subst this
   rw[LX_end (.inl rfl)]
   simp
 | succ m ih =>
   intro r p h
   by_cases h0:r=[]∨bt r 0=35
   ·rw[LX_end h0];simp
   ·have hr:r≠[]:=fun e=>h0 (.inl e)
    have hl:=List.length_pos_iff.2 hr
    by_cases hb:spB (bt r 0)=true
    ·rw[LX_blank h0 hb]
     have:=ih (r.drop 1) (p+1) (by rw[List.length_drop];omega)
     rw[List.length_drop] at this
     omega
    ·have hb':spB (bt r 0)=false:=by simpa using hb
     by_cases hz:(oneS r p).2=0
     ·obtain⟨l1,_,l3⟩:=one_len hz hr
      have:=ih (r.drop (oneS r p).1.x.length) (p+(oneS r p).1.x.length) (by rw[List.length_drop];omega)
      rw[List.length_drop] at this
      rw[LX_one h0 hb' hz]
      split
      ·omega
      ·simp only[List.length_cons];omega
     ·rw[LX_bad h0 hb' hz];simp
theorem lexR_count (l:List UInt8):(lexR l).ts.length<=l.length+1:=by
 by_cases h:16384<l.length
 ·rw[lexR_long h];simp
 ·rw[lexR_short (by omega)];exact LX_count _ l 0 (Nat.le_refl _)
def amongB (l:List UInt8) (c:Int):Bool:=l.any fun d=>(d.toNat:Int) == c
theorem amongB_step {l:List UInt8} {k:Nat} (c:Int) (hk:k<l.length):amongB (l.drop k) c=((bt l k == c) || amongB (l.drop (k+1)) c):=by
 unfold amongB
 rw[List.drop_eq_getElem_cons hk,List.any_cons]
 have e:bt l k=(l[k].toNat:Int):=by simp [bt,hk]
 rw[e]
set_option maxHeartbeats 4000000 in
theorem among_any (c:Int) (s:ByteArray) (w:World) (hs:s.size<=281474976710656) :
 Calls Tryz.prog 136 #[.int .u8 c,.string s] w fun e w'=>e=.returned (.bool (amongB s.data.toList c))/\w=w':=by
 have hsl:s.data.toList.length=s.size:=rfl
 have HSL:=Lib.hid hsl
 clear hsl
 generalize hL:s.data.toList=l at *
 have HL:=Lib.hid hL
 clear hL
 go_enter Tryz.func136,Tryz.ntmps136
 go_wp2_with fail
 go_loop [5] (fun ix=>∃ k:Nat,k<=s.size/\ix=.int .i64 k/\amongB (l.drop k) c=amongB l c) (fun ix=>s.size - (intOf ix).toNat)
 case atStart=>exact⟨0,Nat.zero_le _,rfl,rfl⟩
 case round =>
  obtain⟨k,hk,rfl,hrel⟩:=hrel
  have HR:=Lib.hid hrel
  clear hrel
  by_cases hlt:k<s.size
  ·have hbt:=bt_of s k hlt
   rw[HL.out] at hbt
   have hkl:k<l.length:=by have:=HSL.out;omega
   have hst:=amongB_step c hkl
   by_cases hq:bt l k=c
   ·have q:(bt l k == c)=true:=by simpa using hq
    rw[q,Bool.true_or] at hst
    have HE:Hid (amongB l c=true):=Lib.hid (by rw[<-HR.out,hst])
    clear hst hq
    go_wp2_with fail
    go_ret
    exact⟨by rw[HE.out];rfl,rfl⟩
   ·have q:(bt l k == c)=false:=by simpa using hq
    rw[q,Bool.false_or] at hst
    have HE:Hid (amongB (l.drop (k+1)) c=amongB l c):=Lib.hid (by rw[<-HR.out,hst])
    clear hst hq
    go_wp2_with fail
    go_round
    case rel=>exact⟨k+1,by omega,by go_num,HE.out⟩
    case measure=>simp [intOf];omega
  ·have hke:k=s.size:=by omega
   subst hke
   have HE:Hid (amongB l c=false):=Lib.hid (by rw[<-HR.out,List.drop_of_length_le (by have:=HSL.out;omega)];rfl)
   go_wp2_with fail
   go_ret
   exact⟨by rw[HE.out];rfl,rfl⟩
def runB (st l:List UInt8):Nat:=(l.takeWhile fun c=>amongB st c.toNat).length
theorem runB_step {st l:List UInt8} {k:Nat} (hk:k<l.length) (hd:amongB st (bt l k)=true):runB st (l.drop k)=1+runB st (l.drop (k+1)):=by
 unfold runB
 rw[List.drop_eq_getElem_cons hk]
 have e:bt l k=(l[k].toNat:Int):=by simp [bt,hk]
 rw[e] at hd
 rw[List.takeWhile_cons,if_pos hd,List.length_cons]
 omega
theorem runB_stop {st l:List UInt8} {k:Nat} (hk:k<l.length) (hd:amongB st (bt l k)=false):runB st (l.drop k)=0:=by
 unfold runB
 rw[List.drop_eq_getElem_cons hk]
 have e:bt l k=(l[k].toNat:Int):=by simp [bt,hk]
 rw[e] at hd
 rw[List.takeWhile_cons,if_neg (by rw[hd];simp)]
 rfl
theorem runB_le (st l:List UInt8):runB st l<=l.length:=by
 unfold runB
 exact (List.takeWhile_sublist _).length_le
set_option maxHeartbeats 4000000 in
theorem run_any (s:ByteArray) (i:Nat) (st:ByteArray) (w:World) (hi:i<=s.size) (hs:s.size<=281474976710656) (hst:st.size<=281474976710656) :
 Calls Tryz.prog 137 #[.string s,.int .i64 i,.string st] w fun e w'=>e=.returned (.int .i64 (runB st.data.toList (s.data.toList.drop i):Nat))/\w=w':=by
 have hsl:s.data.toList.length=s.size:=rfl
 have HSL:=Lib.hid hsl
 have HAM:=Lib.hid (fun c W=>among_any c st W hst)
 clear hsl
 generalize hL:s.data.toList=l at *
 have HL:=Lib.hid hL
 clear hL
 generalize st.data.toList=sl at *
 go_enter Tryz.func137,Tryz.ntmps137
 go_wp2_with fail
 go_loop [7] (fun ix=>∃ k:Nat,i+k<=s.size/\ix=.int .i64 k/\runB sl (l.drop i)=k+runB sl (l.drop (i+k))) (fun ix=>s.size - (intOf ix).toNat)
 case atStart=>exact⟨0,by omega,rfl,by simp⟩
 case round =>
  obtain⟨k,hk,rfl,hrel⟩:=hrel
  have HR:=Lib.hid hrel
  clear hrel
  by_cases hlt:i+k<s.size
  ·have hlt':(i:Int)+(k:Int)<(s.size:Int):=by omega
   have hbt:=bt_of s (i+k) hlt
   rw[HL.out] at hbt
   have hkl:i+k<l.length:=by have:=HSL.out;omega
   have htn:((i:Int)+(k:Int)).toNat=i+k:=by omega
   have h0:0<=(i:Int)+(k:Int):=by omega
   cases hq:amongB sl (bt l (i+k)) with
   | true =>
     have HE:=Lib.hid (runB_step hkl hq)
     go_wp2_with (go_at_call 136;refine (HAM.out _ _).mono ?_;rintro e w' ⟨rfl,rfl⟩)
     go_round
     case rel=>exact⟨k+1,by omega,by go_num,by have h1:=HE.out;have h2:=HR.out;rw[h2,h1,Nat.add_assoc i k 1];omega⟩
     case measure=>simp [intOf];omega
   | false =>
     have HE:Hid (runB sl (l.drop i)=k):=Lib.hid (by have h1:=HR.out;rw[runB_stop hkl hq] at h1;omega)
     go_wp2_with (go_at_call 136;refine (HAM.out _ _).mono ?_;rintro e w' ⟨rfl,rfl⟩)
     go_ret
     exact⟨by rw[HE.out];rfl,rfl⟩
  ·have hke:¬ (i:Int)+(k:Int)<(s.size:Int):=by omega
   have HE:Hid (runB sl (l.drop i)=k):=Lib.hid (by
    have h1:=HR.out
    rw[List.drop_of_length_le (show l.length<=i+k by have:=HSL.out;omega)] at h1
    exact h1)
   go_wp2_with fail
   go_ret
   exact⟨by rw[HE.out];rfl,rfl⟩
def setL:List UInt8:=[97,98,99,100,101,102,103,104,105,106,107,108,109,110,111,112,113,114,115,116,117,118,119,120,121,122,65,66,67,68,69,70,71,72,73,74,75,76,77,78,79,80,81,82,83,84,85,86,87,88,89,90,95]
def setD:List UInt8:=[48,49,50,51,52,53,54,55,56,57]
theorem of_fin {P:Int->Prop} (h:∀ u:Fin 256,P (u.val:Int)) {c:Int} (h0:0<=c) (h1:c<=255):P c:=by
 have:=h ⟨c.toNat,by omega⟩
 simpa [Int.toNat_of_nonneg h0] using this
theorem among_letters {c:Int} (h0:0<=c) (h1:c<=255):amongB setL c=letB c:=of_fin (P:=fun c=>amongB setL c=letB c) (by decide +kernel) h0 h1
theorem among_digits {c:Int} (h0:0<=c) (h1:c<=255):amongB setD c=digB c:=of_fin (P:=fun c=>amongB setD c=digB c) (by decide +kernel) h0 h1
theorem among_names {c:Int} (h0:0<=c) (h1:c<=255):amongB (setL++setD) c=(letB c || digB c):=of_fin (P:=fun c=>amongB (setL++setD) c=(letB c || digB c)) (by decide +kernel) h0 h1
theorem among_blanks {c:Int} (h0:0<=c) (h1:c<=255):amongB [32,9] c=spB c:=of_fin (P:=fun c=>amongB [32,9] c=spB c) (by decide +kernel) h0 h1
theorem among_marks {c:Int} (h0:0<=c) (h1:c<=255):amongB [40,41,44,43,45] c=decide (c=45∨c=40∨c=41∨c=44∨c=43):=of_fin (P:=fun c=>amongB [40,41,44,43,45] c=decide (c=45∨c=40∨c=41∨c=44∨c=43)) (by decide +kernel) h0 h1
theorem run_names (l:List UInt8):runB (setL++setD) l=nameRun l:=by
 unfold runB nameRun
 have:(fun c:UInt8=>amongB (setL++setD) c.toNat)=fun c:UInt8=>letB c.toNat || digB c.toNat:=by
  funext c
  exact among_names (by omega) (by have:=c.toNat_lt;omega)
 rw[this]
theorem run_blanks (l:List UInt8):runB [32,9] l=(l.takeWhile fun c=>spB c.toNat).length:=by
 unfold runB
 have:(fun c:UInt8=>amongB [32,9] c.toNat)=fun c:UInt8=>spB c.toNat:=by
  funext c
  exact among_blanks (by omega) (by have:=c.toNat_lt;omega)
 rw[this]
end Go.Proofs.YtamjadghncnbcaaGreatDoor
