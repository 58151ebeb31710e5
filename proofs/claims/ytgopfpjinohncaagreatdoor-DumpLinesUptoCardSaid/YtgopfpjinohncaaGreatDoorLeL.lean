/- value.Compare, walked. value.Show of a text, walked. osierlaw01.awake, walked. osierref01.Texts, Compare, walked; the law ValueCompares. osierref01.Valid and the law ValueValids, walked. osierref01.Byte, Digits, Number, Show, walked. osierref01.Digits, Number, walked. -/
import Derived.Test.YtgopfpjinohncaaGreatDoorProg
import Derived.Test.YtgopfpjinohncaaGreatDoorShelfZL
import Derived.Test.YtgopfpjinohncaaGreatDoorLbL
import Derived.Lib.Bytealg
import Derived.WalkSpells
import Derived.WalkLawsBesides
import Derived.Deep.QuietTactic
import Derived.BigQuiet
import Derived.Lib.Hide
import Derived.StillTailTactics
import Derived.Handy
import Derived.Deep.RegionHeld3
import Derived.KernelRfl
import Derived.Deep.MidRow
import Derived.Lib.ItoaLen
namespace Go.Proofs.YtgopfpjinohncaaGreatDoor
open Go.RowKit
def cmpI (a b:Int):Int:=if a<b then -1 else if b<a then 1 else 0
def orI (x y z:Int):Int:=if x=0 then (if y=0 then z else y) else x
set_option maxHeartbeats 400000 in
theorem cmpKind_any (a b:Int) (w:World):Calls Tryz.prog 229 #[.int .i64 a,.int .i64 b] w fun e w'=>e=.returned (.int .i64 (cmpI a b))/\w=w':=by
 have t0:(a != a)=false:=by simp
 have t1:(b != b)=false:=by simp
 by_cases h:a<b
 ·have e:cmpI a b = -1:=by simp [cmpI,h]
  have HE:=Lib.hid e
  clear e
  go_enter Tryz.func229,Tryz.ntmps229
  go_wp2
  go_ret
  exact⟨by rw[HE.out];rfl,rfl⟩
 ·by_cases h2:b<a
  ·have e:cmpI a b=1:=by simp [cmpI,h,h2]
   have HE:=Lib.hid e
   clear e
   go_enter Tryz.func229,Tryz.ntmps229
   go_wp2
   go_ret
   exact⟨by rw[HE.out];rfl,rfl⟩
  ·have e:cmpI a b=0:=by simp [cmpI,h,h2]
   have HE:=Lib.hid e
   clear e
   go_enter Tryz.func229,Tryz.ntmps229
   go_wp2
   go_ret
   exact⟨by rw[HE.out];rfl,rfl⟩
set_option maxHeartbeats 400000 in
theorem cmpInt_any (a b:Int) (w:World):Calls Tryz.prog 230 #[.int .i64 a,.int .i64 b] w fun e w'=>e=.returned (.int .i64 (cmpI a b))/\w=w':=by
 have t0:(a != a)=false:=by simp
 have t1:(b != b)=false:=by simp
 by_cases h:a<b
 ·have e:cmpI a b = -1:=by simp [cmpI,h]
  have HE:=Lib.hid e
  clear e
  go_enter Tryz.func230,Tryz.ntmps230
  go_wp2
  go_ret
  exact⟨by rw[HE.out];rfl,rfl⟩
 ·by_cases h2:b<a
  ·have e:cmpI a b=1:=by simp [cmpI,h,h2]
   have HE:=Lib.hid e
   clear e
   go_enter Tryz.func230,Tryz.ntmps230
   go_wp2
   go_ret
   exact⟨by rw[HE.out];rfl,rfl⟩
  ·have e:cmpI a b=0:=by simp [cmpI,h,h2]
   have HE:=Lib.hid e
   clear e
   go_enter Tryz.func230,Tryz.ntmps230
   go_wp2
   go_ret
   exact⟨by rw[HE.out];rfl,rfl⟩
set_option maxHeartbeats 1000000 in
theorem or_any (x y z:Int) (B:Nat) (w:World) (h0:w.cell? ⟨B,0,none⟩=some (.int .i64 x)) (h1:w.cell? ⟨B,1,none⟩=some (.int .i64 y)) (h2:w.cell? ⟨B,2,none⟩=some (.int .i64 z)) :
 Calls Tryz.prog 228 #[.slice (some ⟨B,0,none⟩) 3 3] w fun e w'=>e=.returned (.int .i64 (orI x y z))/\w=w':=by
 by_cases hx:x=0
 ·subst hx
  by_cases hy:y=0
  ·subst hy
   by_cases hz:z=0
   ·subst hz
    go_enter Tryz.func228,Tryz.ntmps228
    go_wp2
    go_rounds 5
    go_ret
    exact⟨rfl,rfl⟩
   ·have hz':(z != 0)=true:=by simpa using hz
    go_enter Tryz.func228,Tryz.ntmps228
    go_wp2
    go_rounds 5
    go_ret
    exact⟨rfl,rfl⟩
  ·have hy':(y != 0)=true:=by simpa using hy
   go_enter Tryz.func228,Tryz.ntmps228
   go_wp2
   go_rounds 5
   go_ret
   exact⟨by simp [orI,hy],rfl⟩
 ·have hx':(x != 0)=true:=by simpa using hx
  go_enter Tryz.func228,Tryz.ntmps228
  go_wp2
  go_rounds 5
  go_ret
  exact⟨by simp [orI,hx],rfl⟩
def cmpV (k1 n1:Int) (t1:ByteArray) (k2 n2:Int) (t2:ByteArray):Int:=orI (cmpI k1 k2) (cmpI n1 n2) (Lib.compareBytes t1.data.toList t2.data.toList)
end Go.Proofs.YtgopfpjinohncaaGreatDoor
namespace Go.Proofs.YtgopfpjinohncaaGreatDoor
open Go.RowKit
set_option linter.unusedVariables false
theorem showT_take (t:ByteArray) (k:Nat) (h:k<t.size):showT (t.data.toList.take (k+1))=showT (t.data.toList.take k)++showB (((t[k]'h).toNat:Int)):=by
 have h':k<t.data.toList.length:=h
 rw[List.take_succ_eq_append_getElem h',showT,List.flatMap_append]
 simp only[List.flatMap_cons,List.flatMap_nil,List.append_nil,showT]
 rfl
set_option maxHeartbeats 4000000 in
set_option maxRecDepth 100000 in
theorem show_text (n:Int) (t:ByteArray) (w:World) (h:validB 2 n t.data.toList=true) :
 Calls Tryz.prog 150 #[.agg #[.int .i64 2,.int .i64 n,.string t]] w fun e w'=>e=.returned (.string ⟨(showR 2 n t.data.toList).toArray⟩)/\Below w.heap.size w w':=by
 have hs64:t.size<=64:=by
  have hl:t.data.toList.length=t.size:=rfl
  simp only[validB,hl,decide_eq_true_eq] at h
  omega
 have HE:Hid (showR 2 n t.data.toList=34::(showT t.data.toList++[34])):=Lib.hid (by rw[showR,h];rfl)
 have hB:IsBld (w.heap.size+1+1) (w.heap.size+1+1) [] (((w.alloc (.cells #[.int .i64 2,.int .i64 n,.string t] 111)).alloc (.cells #[.int .i64 2,.int .i64 n,.string t] 111)).alloc (.cells #[.pointer none,.slice none 0 0] 156)):=by
  have:=Lib.fresh_isBuilder 156 5 ((w.alloc (.cells #[.int .i64 2,.int .i64 n,.string t] 111)).alloc (.cells #[.int .i64 2,.int .i64 n,.string t] 111))
  simp only[World.size_alloc] at this
  exact this
 have HB:=Lib.hid hB
 have hb0:Below w.heap.size w (((w.alloc (.cells #[.int .i64 2,.int .i64 n,.string t] 111)).alloc (.cells #[.int .i64 2,.int .i64 n,.string t] 111)).alloc (.cells #[.pointer none,.slice none 0 0] 156)):=balloc (balloc (balloc (Below.refl _ _) _) _) _
 have HB0:=Lib.hid hb0
 clear hB hb0
 go_enter Tryz.func150,Tryz.ntmps150
 go_wp2_with fail
 refine (valid_any 2 n t _).mono ?_
 rintro e w1 ⟨rfl,rfl⟩
 rw[h]
 go_wp2_with fail
 refine (writeByte_l (w.heap.size+1+1) (w.heap.size+1+1) [] 34 _ HB.out (by simp) (by simp) (by omega) (by omega)).mono ?_
 rintro e w2 ⟨rfl,hw2,hb2⟩
 have hc:=hb2.cell (p:=⟨w.heap.size,2,none⟩) (by simp;omega)
 simp [go_sem] at hc
 have hz:=hb2.size
 simp at hz
 have HW2:=Lib.hid hw2
 have HB2:=Lib.hid hb2
 clear hw2 hb2
 have HH:=Lib.hid h
 clear h
 go_wp2_with fail
 go_loopw [18] (fun ix wr=>∃ (k:Nat),k<=t.size/\ix=.int .i64 k/\BldAt (w.heap.size+1+1) (w.heap.size+1+1) (.pointer (some ⟨w.heap.size+1+1,0,none⟩)) (34::showT (t.data.toList.take k)) wr/\Below (w.heap.size+1+1) w2 wr) (fun ix _=>t.size - (intOf ix).toNat)
 case atStart =>
  exact⟨0,Nat.zero_le _,rfl,by simpa [showT] using HW2.out,Below.refl _ _⟩
 case round =>
  obtain⟨k,hk,rfl,hbld,hbel⟩:=hrel
  have hc':=(hbel.cell (p:=⟨w.heap.size,2,none⟩) (by simp;omega)).trans hc
  have hzr:=hbel.size
  have HBL:=Lib.hid hbld
  clear hbld
  have hsl:=showT_len (t.data.toList.take k)
  have hsl2:(t.data.toList.take k).length<=k:=by rw[List.length_take];exact Nat.min_le_left _ _
  by_cases hlt:k<t.size
  ·have HT:=Lib.hid (showT_take t k hlt)
   have hbd:((t[k]'hlt).toNat:Int)<=255:=by have:=(t[k]'hlt).toNat_lt;omega
   have HBD:=Lib.hid hbd
   clear hbd
   go_wp2_with fail
   refine (showByte_any (w.heap.size+1+1) (w.heap.size+1+1) _ _ wr (.inr HBL.out) (by simp;omega) (by omega) (by omega) HBD.out).mono ?_
   rintro e w3 ⟨rfl,hw3,hb3⟩
   have HW3:=Lib.hid hw3
   clear hw3
   go_wp2_with fail
   exact⟨⟨k+1,by omega,congrArg (Value.int .i64) (by omega),by rw[HT.out];exact HW3.out,hbel.trans hb3⟩,by simp only[intOf];omega⟩
  ·have hke:k=t.size:=by omega
   subst hke
   have htk:t.data.toList.take t.size=t.data.toList:=List.take_of_length_le (Nat.le_refl _)
   rw[htk] at hsl
   have HT:=Lib.hid htk
   clear htk hsl2
   go_wp2_with fail
   refine (writeByte_l (w.heap.size+1+1) (w.heap.size+1+1) _ 34 wr (.inr HBL.out) (by rw[HT.out];simp only[List.length_cons];have:t.data.toList.length=t.size:=rfl;omega) (by omega) (by omega) (by omega)).mono ?_
   rintro e w3 ⟨rfl,hw3,hb3⟩
   have HW3:=Lib.hid hw3
   have hb3s:=hb3.size
   clear hw3
   go_wp2_with fail
   refine (Tryz.Builder_String_any (w.heap.size+1+1) (w.heap.size+1+1) _ w3 (.inr HW3.out) (by omega)).mono ?_
   rintro e w4 ⟨rfl,hb4⟩
   go_wp2_with fail
   go_ret
   refine⟨?_,HB0.out.trans ((((HB2.out.trans hbel).trans hb3).trans hb4).mono (by omega))⟩
   rw[HE.out,HT.out]
   rfl
theorem show_any (k n:Int) (t:ByteArray) (w:World) (h0 : -9223372036854775808<=n) (h1:n<=9223372036854775807) (hg:Glob w) :
 Calls Tryz.prog 150 #[.agg #[.int .i64 k,.int .i64 n,.string t]] w fun e w'=>e=.returned (.string ⟨(showR k n t.data.toList).toArray⟩)/\Below w.heap.size w w':=by
 cases h:validB k n t.data.toList with
 | false=>exact show_bad k n t w h
 | true =>
   have hk:k=1∨k=2:=by
    simp only[validB,decide_eq_true_eq] at h
    omega
   rcases hk with rfl | rfl
   ·exact show_num n t w h h0 h1 hg
   ·exact show_text n t w h
theorem cmp_step {a b:List UInt8} {k:Nat} (ha:k<a.length) (hb:k<b.length) :
 Lib.compareBytes (a.drop k) (b.drop k)=if bt a k<bt b k then -1 else if bt b k<bt a k then 1 else Lib.compareBytes (a.drop (k+1)) (b.drop (k+1)):=by
 rw[List.drop_eq_getElem_cons ha,List.drop_eq_getElem_cons hb,Lib.compareBytes]
 have ea:bt a k=((a[k]).toNat:Int):=by unfold bt;simp [ha]
 have eb:bt b k=((b[k]).toNat:Int):=by unfold bt;simp [hb]
 rw[ea,eb]
 simp only[UInt8.lt_iff_toNat_lt,Int.ofNat_lt]
theorem cmp_end {a b:List UInt8} {k:Nat} (h:a.length<=k∨b.length<=k) (hk:k<=a.length) (hk2:k<=b.length) :
 Lib.compareBytes (a.drop k) (b.drop k)=if a.length<b.length then -1 else if b.length<a.length then 1 else 0:=by
 cases ha:a.drop k with
 | nil =>
   have la:a.length<=k:=List.drop_eq_nil_iff.1 ha
   cases hb:b.drop k with
   | nil =>
     have lb:b.length<=k:=List.drop_eq_nil_iff.1 hb
     rw[if_neg (by omega),if_neg (by omega)];rfl
   | cons x y =>
     have lb:k<b.length:=by
      rcases Nat.lt_or_ge k b.length with h | h
      ·exact h
      ·rw[List.drop_of_length_le h] at hb;cases hb
     rw[if_pos (by omega)];rfl
 | cons x y =>
   have la:k<a.length:=by
    rcases Nat.lt_or_ge k a.length with h | h
    ·exact h
    ·rw[List.drop_of_length_le h] at ha;cases ha
   rw[List.drop_of_length_le (by omega:b.length<=k)]
   rw[if_neg (by omega),if_pos (by omega)];rfl
set_option maxHeartbeats 4000000 in
theorem texts_any (a b:ByteArray) (w:World) (ha:a.size<=281474976710656) :
 Calls Tryz.prog 249 #[.string a,.string b] w fun e w'=>e=.returned (.int .i64 (Lib.compareBytes a.data.toList b.data.toList))/\Below w.heap.size w w':=by
 have la:a.data.toList.length=a.size:=rfl
 have lb:b.data.toList.length=b.size:=rfl
 go_enter Tryz.func249,Tryz.ntmps249
 go_wp2_with fail
 go_loopw [5] (fun ix wr=>∃ k:Nat,k<=a.size/\k<=b.size/\ix=.int .i64 k/\Below w.heap.size w wr/\Lib.compareBytes a.data.toList b.data.toList=Lib.compareBytes (a.data.toList.drop k) (b.data.toList.drop k)) (fun ix _=>a.size - (intOf ix).toNat)
 case atStart=>exact⟨0,Nat.zero_le _,Nat.zero_le _,rfl,Below.refl _ _,rfl⟩
 case round =>
  obtain⟨k,hka,hkb,rfl,hbel,hcmp⟩:=hrel
  by_cases hl:k<a.size/\k<b.size
  ·obtain⟨hla,hlb⟩:=hl
   have hst:=cmp_step (a:=a.data.toList) (b:=b.data.toList) (by omega:k<a.data.toList.length) (by omega)
   have e1:=bt_of a k hla
   have e2:=bt_of b k hlb
   have HB:=Lib.hid hbel
   generalize bt a.data.toList k=c1 at *
   generalize bt b.data.toList k=c2 at *
   by_cases h1:c1<c2
   ·rw[if_pos h1] at hst
    have HE:=Lib.hid (hcmp.trans hst)
    clear hcmp hst la lb hbel
    go_wp2_with fail
    go_quiet (fail)
    go_wp2_with fail
    go_ret
    exact⟨by rw[HE.out];rfl,by repeat (first | exact HB.out | refine bdrewN ?_ _ | refine bdrew ?_)⟩
   ·rw[if_neg h1] at hst
    by_cases h2:c2<c1
    ·rw[if_pos h2] at hst
     have HE:=Lib.hid (hcmp.trans hst)
     clear hcmp hst la lb hbel
     go_wp2_with fail
     go_quiet (fail)
     go_wp2_with fail
     go_quiet (fail)
     go_wp2_with fail
     go_ret
     exact⟨by rw[HE.out];rfl,by repeat (first | exact HB.out | refine bdrewN ?_ _ | refine bdrew ?_)⟩
    ·rw[if_neg h2] at hst
     have HE:=Lib.hid (hcmp.trans hst)
     clear hcmp hst la lb hbel
     go_wp2_with fail
     go_quiet (fail)
     go_wp2_with fail
     go_quiet (fail)
     go_wp2_with fail
     go_round
     case rel=>exact⟨k+1,by omega,by omega,by go_num,by repeat (first | exact HB.out | refine bdrewN ?_ _ | refine bdrew ?_),HE.out⟩
     case measure=>simp [intOf];omega
  ·have hst:=cmp_end (a:=a.data.toList) (b:=b.data.toList) (k:=k) (by omega) (by omega) (by omega)
   rw[la,lb] at hst
   have HE:=Lib.hid (hcmp.trans hst)
   have HB:=Lib.hid hbel
   clear hcmp hst la lb hbel
   by_cases hla:k<a.size<;>by_cases hlb:k<b.size<;>first | (exfalso;omega) | skip
   all_goals
    by_cases h1:a.size<b.size
    ·have g1:decide ((a.size:Int)<b.size)=true:=by simp;omega
     go_wp2_with fail
     go_ret
     exact⟨by rw[HE.out,if_pos h1];try simp,HB.out⟩
    ·have g1:decide ((a.size:Int)<b.size)=false:=by simp;omega
     by_cases h2:b.size<a.size
     ·have g2:decide ((b.size:Int)<a.size)=true:=by simp;omega
      go_wp2_with fail
      go_ret
      exact⟨by rw[HE.out,if_neg h1,if_pos h2];try simp,HB.out⟩
     ·have g2:decide ((b.size:Int)<a.size)=false:=by simp;omega
      go_wp2_with fail
      go_ret
      exact⟨by rw[HE.out,if_neg h1,if_neg h2];try simp,HB.out⟩
theorem cmpV_cases (k1 n1:Int) (t1:ByteArray) (k2 n2:Int) (t2:ByteArray) :
 cmpV k1 n1 t1 k2 n2 t2=if k1≠k2 then (if k1<k2 then -1 else 1) else if n1≠n2 then (if n1<n2 then -1 else 1) else Lib.compareBytes t1.data.toList t2.data.toList:=by
 unfold cmpV orI cmpI
 (repeat' split)<;>first | rfl | omega
set_option maxHeartbeats 4000000 in
theorem refCompare_any (k1 n1:Int) (t1:ByteArray) (k2 n2:Int) (t2:ByteArray) (w:World) (ht:t1.size<=281474976710656) :
 Calls Tryz.prog 232 #[.agg #[.int .i64 k1,.int .i64 n1,.string t1],.agg #[.int .i64 k2,.int .i64 n2,.string t2]] w fun e w' =>
  e=.returned (.int .i64 (cmpV k1 n1 t1 k2 n2 t2))/\Below w.heap.size w w':=by
 have hc:=cmpV_cases k1 n1 t1 k2 n2 t2
 have HB0:=Lib.hid (show Below w.heap.size w ((w.alloc (.cells #[.int .i64 k1,.int .i64 n1,.string t1] 111)).alloc (.cells #[.int .i64 k2,.int .i64 n2,.string t2] 111)) from balloc (balloc (Below.refl _ _) _) _)
 by_cases hk:k1=k2
 ·rw[if_neg (by simpa using hk)] at hc
  have q1:(k1 != k2)=false:=by simpa using hk
  by_cases hn:n1=n2
  ·rw[if_neg (by simpa using hn)] at hc
   have q2:(n1 != n2)=false:=by simpa using hn
   have HC:=Lib.hid hc
   clear hc hk hn
   go_enter Tryz.func232,Tryz.ntmps232
   go_wp2_with fail
   refine (texts_any t1 t2 _ ht).mono ?_
   rintro e w1 ⟨rfl,hb1⟩
   have HB1:=Lib.hid (HB0.out.trans (hb1.mono (by simp;omega)))
   clear hb1
   go_wp2_with fail
   go_ret
   exact⟨by rw[HC.out];rfl,HB1.out⟩
  ·rw[if_pos (by simpa using hn)] at hc
   have q2:(n1 != n2)=true:=by simpa using hn
   by_cases h:n1<n2
   ·rw[if_pos h] at hc
    have HC:=Lib.hid hc
    clear hc hk hn
    go_enter Tryz.func232,Tryz.ntmps232
    go_wp2_with fail
    go_ret
    exact⟨by rw[HC.out];rfl,HB0.out⟩
   ·rw[if_neg h] at hc
    have HC:=Lib.hid hc
    clear hc hk hn
    go_enter Tryz.func232,Tryz.ntmps232
    go_wp2_with fail
    go_ret
    exact⟨by rw[HC.out];rfl,HB0.out⟩
 ·rw[if_pos (by simpa using hk)] at hc
  have q1:(k1 != k2)=true:=by simpa using hk
  by_cases h:k1<k2
  ·rw[if_pos h] at hc
   have HC:=Lib.hid hc
   clear hc hk
   go_enter Tryz.func232,Tryz.ntmps232
   go_wp2_with fail
   go_ret
   exact⟨by rw[HC.out];rfl,HB0.out⟩
  ·rw[if_neg h] at hc
   have HC:=Lib.hid hc
   clear hc hk
   go_enter Tryz.func232,Tryz.ntmps232
   go_wp2_with fail
   go_ret
   exact⟨by rw[HC.out];rfl,HB0.out⟩
set_option maxHeartbeats 2000000 in
theorem refValid_any (k n:Int) (t:ByteArray) (w:World) :
 Calls Tryz.prog 122 #[.agg #[.int .i64 k,.int .i64 n,.string t]] w fun e w'=>e=.returned (.bool (validB k n t.data.toList))/\Below w.heap.size w w':=by
 have hl:t.data.toList.length=t.size:=rfl
 by_cases k1:k=1
 ·subst k1
  have HE:Hid (validB 1 n t.data.toList=decide (t.size=0)):=Lib.hid (by simp only[validB,<-hl,List.length_eq_zero_iff];simp)
  by_cases h0:t.size=0
  ·have q:((t.size:Int) == 0)=true:=by simp [h0]
   have HE2:Hid (validB 1 n t.data.toList=true):=Lib.hid (by rw[HE.out];simp [h0])
   clear h0 hl
   go_enter Tryz.func122,Tryz.ntmps122
   go_wp2
   go_ret
   exact⟨by rw[HE2.out];rfl,balloc (Below.refl _ _) _⟩
  ·have q:((t.size:Int) == 0)=false:=beq_eq_false_iff_ne.2 (by omega)
   have q':(t.size == 0)=false:=beq_eq_false_iff_ne.2 (by omega)
   have HE2:Hid (validB 1 n t.data.toList=false):=Lib.hid (by rw[HE.out];simp [h0])
   clear h0 hl
   go_enter Tryz.func122,Tryz.ntmps122
   go_wp2
   go_ret
   exact⟨by rw[HE2.out];rfl,balloc (Below.refl _ _) _⟩
 ·have q1:(k == 1)=false:=by simpa using k1
  have HE:Hid (validB k n t.data.toList=decide (k=2/\n=0/\t.size<=64)):=Lib.hid (by simp only[validB,hl,k1];simp)
  clear hl
  by_cases k2:k=2
  ·have q2:(k == 2)=true:=by simpa using k2
   by_cases n0:n=0
   ·have q3:(n == 0)=true:=by simpa using n0
    by_cases h64:t.size<=64
    ·have HE2:Hid (validB k n t.data.toList=true):=Lib.hid (by rw[HE.out];simp [k2,n0,h64])
     have h64':decide ((t.size:Int)<=64)=true:=by simp;omega
     clear k1 k2 n0
     go_enter Tryz.func122,Tryz.ntmps122
     go_wp2
     go_ret
     exact⟨by rw[HE2.out];rfl,balloc (Below.refl _ _) _⟩
    ·have HE2:Hid (validB k n t.data.toList=false):=Lib.hid (by rw[HE.out];simp [k2,n0];omega)
     have h64':decide ((t.size:Int)<=64)=false:=by simp;omega
     clear k1 k2 n0 h64
     go_enter Tryz.func122,Tryz.ntmps122
     go_wp2
     go_ret
     exact⟨by rw[HE2.out];rfl,balloc (Below.refl _ _) _⟩
   ·have q3:(n == 0)=false:=by simpa using n0
    have HE2:Hid (validB k n t.data.toList=false):=Lib.hid (by rw[HE.out];simp [n0])
    clear k1 k2 n0
    go_enter Tryz.func122,Tryz.ntmps122
    go_wp2
    go_ret
    exact⟨by rw[HE2.out];rfl,balloc (Below.refl _ _) _⟩
  ·have q2:(k == 2)=false:=by simpa using k2
   have HE2:Hid (validB k n t.data.toList=false):=Lib.hid (by rw[HE.out];simp [k2])
   clear k1 k2
   go_enter Tryz.func122,Tryz.ntmps122
   go_wp2
   go_ret
   exact⟨by rw[HE2.out];rfl,balloc (Below.refl _ _) _⟩
theorem bytes_conv {P:Program} {w:World} {g e src dst n cap:Nat} {l:List UInt8} (hs:P.underlying src=some (.slice e)) (he:P.underlying e=some (.int .u8)) (hd:P.underlying dst=some .string)
 (hl:(Lib.byteCells l).length=n) (h:∀ j v,(Lib.byteCells l)[j]? = some v->w.cell? ((⟨g,0,none⟩:Addr).add j)=some v):(convert src dst (.slice (some ⟨g,0,none⟩) n cap)).run P w=.ok (.string ⟨l.toArray⟩) w:=by
 rw[run_convert_bytes_string w src dst e _ _ _ hs he hd]
 have hc:=run_loadCells_list (P:=P) w ⟨g,0,none⟩ (Lib.byteCells l) h
 rw[hl] at hc
 have e:Lib.byteCells l=(l.map fun b=>(b.toNat:Int)).map (Value.int .u8):=by simp [Lib.byteCells]
 rw[e] at hc
 rw[run_bytesToString w ⟨g,0,none⟩ n cap _ hc]
 congr 2
 have:∀ (l:List UInt8) (a:ByteArray),(l.map fun b=>(b.toNat:Int)).foldl (fun r (n:Int)=>r.push (UInt8.ofNat n.toNat)) a=⟨(a.data.toList++l).toArray⟩:=by
  intro l
  induction l with
  | nil=>intro a;simp
  | cons x l ih =>
    intro a
    simp only[List.map_cons,List.foldl_cons]
    rw[ih]
    simp [ByteArray.push]
 rw[this]
 simp
theorem conv1 {w:World} {g cap:Nat} {c:Int} (h0:0<=c) (h1:c<=255) (h:w.cell? ⟨g,0,none⟩=some (.int .u8 c)) :
 (convert 154 9 (.slice (some ⟨g,0,none⟩) 1 cap)).run Tryz.prog w=.ok (.string ⟨#[UInt8.ofNat c.toNat]⟩) w:=by
 refine bytes_conv (l:=[UInt8.ofNat c.toNat]) Tryz.underlying154 Tryz.underlying5 Tryz.underlying9 rfl ?_
 intro j v hj
 match j with
 | 0 =>
   simp only[Lib.byteCells,List.map_cons,List.map_nil,List.getElem?_cons_zero,Option.some.injEq] at hj
   rw[<-hj,<-byte_of c h0 h1]
   exact h
 | j+1=>simp [Lib.byteCells] at hj
theorem conv2 {w:World} {g cap:Nat} {a b:UInt8} (h:w.cell? ⟨g,0,none⟩=some (.int .u8 a.toNat)) (h2:w.cell? ⟨g,1,none⟩=some (.int .u8 b.toNat)) :
 (convert 154 9 (.slice (some ⟨g,0,none⟩) 2 cap)).run Tryz.prog w=.ok (.string ⟨#[a,b]⟩) w:=by
 refine bytes_conv (l:=[a,b]) Tryz.underlying154 Tryz.underlying5 Tryz.underlying9 rfl ?_
 intro j v hj
 match j with
 | 0=>simp only[Lib.byteCells,List.map_cons,List.map_nil,List.getElem?_cons_zero,Option.some.injEq] at hj;rw[<-hj];exact h
 | 1=>simp only[Lib.byteCells,List.map_cons,List.map_nil,List.getElem?_cons_succ,List.getElem?_cons_zero,Option.some.injEq] at hj;rw[<-hj];exact h2
 | j+2=>simp [Lib.byteCells] at hj
set_option maxHeartbeats 4000000 in
set_option maxRecDepth 100000 in
theorem refByte_any (c:Int) (w:World) (h0:0<=c) (h1:c<=255) :
 Calls Tryz.prog 159 #[.int .u8 c] w fun e w'=>e=.returned (.string ⟨(showB c).toArray⟩)/\Below w.heap.size w w':=by
 by_cases c1:c=34
 ·subst c1
  go_enter Tryz.func159,Tryz.ntmps159
  go_wp2_with fail
  go_ret
  exact⟨rfl,Below.refl _ _⟩
 by_cases c2:c=92
 ·subst c2
  go_enter Tryz.func159,Tryz.ntmps159
  go_wp2_with fail
  go_ret
  exact⟨rfl,Below.refl _ _⟩
 by_cases c3:c=10
 ·subst c3
  go_enter Tryz.func159,Tryz.ntmps159
  go_wp2_with fail
  go_ret
  exact⟨rfl,Below.refl _ _⟩
 by_cases c4:c=9
 ·subst c4
  go_enter Tryz.func159,Tryz.ntmps159
  go_wp2_with fail
  go_ret
  exact⟨rfl,Below.refl _ _⟩
 have q1:(c == 34)=false:=by simpa using c1
 have q2:(c == 92)=false:=by simpa using c2
 have q3:(c == 10)=false:=by simpa using c3
 have q4:(c == 9)=false:=by simpa using c4
 by_cases c5:32<=c/\c<=126
 ·have HE:Hid (showB c=[UInt8.ofNat c.toNat]):=Lib.hid (by unfold showB;rw[if_neg (by omega),if_neg c3,if_neg c4,if_pos c5])
  obtain⟨c6,c7⟩:=c5
  clear c1 c2 c3 c4
  have hc:(w.alloc (.cells #[.int .u8 c] 5)).cell? ⟨w.heap.size,0,none⟩=some (.int .u8 c):=by simp
  have hcv:=conv1 (cap:=1) h0 h1 hc
  have HB0:=Lib.hid (show Below w.heap.size w (w.alloc (.cells #[.int .u8 c] 5)) from balloc (Below.refl _ _) _)
  go_enter Tryz.func159,Tryz.ntmps159
  go_wp2_with fail
  go_ret
  exact⟨by rw[HE.out];rfl,HB0.out⟩
 ·have HE:Hid (showB c=[92,120,hexd (c / 16),hexd (c % 16)]):=Lib.hid (by unfold showB;rw[if_neg (by omega),if_neg c3,if_neg c4,if_neg c5])
  have c6:c<32∨126<c:=by omega
  have g1:=hexd_at (c / 16) (by omega) (by omega)
  have g2:=hexd_at (c % 16) (by omega) (by omega)
  have hc0:((w.alloc (.cells #[.int .u8 ((hexd (c / 16)).toNat:Int),.int .u8 ((hexd (c % 16)).toNat:Int)] 5)).drew).cell? ⟨w.heap.size,0,none⟩=some (.int .u8 ((hexd (c / 16)).toNat:Int)):=by simp
  have hc1:((w.alloc (.cells #[.int .u8 ((hexd (c / 16)).toNat:Int),.int .u8 ((hexd (c % 16)).toNat:Int)] 5)).drew).cell? ⟨w.heap.size,1,none⟩=some (.int .u8 ((hexd (c % 16)).toNat:Int)):=by simp
  have hcv:=conv2 (cap:=2) hc0 hc1
  have HB0:=Lib.hid (show Below w.heap.size w ((w.alloc (.cells #[.int .u8 ((hexd (c / 16)).toNat:Int),.int .u8 ((hexd (c % 16)).toNat:Int)] 5)).drew) from bdrew (balloc (Below.refl _ _) _))
  clear c1 c2 c3 c4 c5 hc0 hc1
  rcases c6 with c6 | c6
  all_goals
   go_enter Tryz.func159,Tryz.ntmps159
   go_wp2_with fail
   go_region
   all_goals go_wp2_with fail
   all_goals go_ret
   all_goals exact⟨by rw[HE.out];rfl,HB0.out⟩
theorem dec_step {n:Nat} (h:10<=n):Lib.decDigits n=Lib.decDigits (n / 10)++[UInt8.ofNat (48+n % 10)]:=by
 conv=>lhs;rw[Lib.decDigits,dif_neg (by omega)]
theorem dec_last {n:Nat} (h:n<10):Lib.decDigits n=[UInt8.ofNat (48+n % 10)]:=by
 rw[Lib.decDigits,dif_pos h,Nat.mod_eq_of_lt h]
set_option maxHeartbeats 4000000 in
set_option maxRecDepth 100000 in
theorem digits_any (u:Nat) (w:World) (hu:u<=18446744073709551615) :
 Calls Tryz.prog 211 #[.int .u64 u] w fun e w'=>e=.returned (.string ⟨(Lib.decDigits u).toArray⟩)/\Below w.heap.size w w':=by
 go_enter Tryz.func211,Tryz.ntmps211
 go_wp2_with fail
 go_loopw [0,3] (fun m s wr=>∃ (n:Nat) (l:List UInt8),m=.int .u64 n/\s=.string ⟨l.toArray⟩/\n<=18446744073709551615/\Below w.heap.size w wr/\Lib.decDigits u=Lib.decDigits n++l) (fun m _ _=>(intOf m).toNat)
 case atStart=>exact⟨u,[],rfl,rfl,hu,Below.refl _ _,by simp⟩
 case round =>
  obtain⟨n,l,rfl,rfl,hn,hbel,hd⟩:=hrel
  have hc:(wr.alloc (.cells #[.int .u8 (48+(n:Int) % 10)] 5)).cell? ⟨wr.heap.size,0,none⟩=some (.int .u8 (48+(n:Int) % 10)):=by simp
  have hcv:=conv1 (cap:=1) (c:=48+(n:Int) % 10) (by omega) (by omega) hc
  have hsz:=hbel.size
  have hll:1+l.length<=9223372036854775807:=by
   have h1:=congrArg List.length hd
   rw[List.length_append,Lib.decDigits_length] at h1
   have h2:=Lib.nDigits_le20 u (by omega)
   omega
  have hcc:(ByteArray.mk #[48+UInt8.ofNat (n % 10)]++ByteArray.mk l.toArray)=⟨(UInt8.ofNat (48+n % 10)::l).toArray⟩:=by
   apply ByteArray.ext
   simp
  have HCC:=Lib.hid hcc
  clear hcc
  have HB:=Lib.hid (show Below w.heap.size w (wr.alloc (.cells #[.int .u8 (48+(n:Int) % 10)] 5)) from balloc hbel _)
  have HD:=Lib.hid hd
  clear hbel hd hc
  by_cases h10:n<10
  ·have hz:((n:Int) / 10 == 0)=true:=by simp;omega
   have HL:=Lib.hid (dec_last h10)
   go_wp2_with fail
   go_ret
   have hE:=HD.out
   rw[HL.out] at hE
   exact⟨by rw[HCC.out,hE];rfl,HB.out⟩
  ·have hz:((n:Int) / 10 == 0)=false:=beq_eq_false_iff_ne.2 (by omega)
   have HL:=Lib.hid (dec_step (show 10<=n by omega))
   go_wp2_with fail
   go_round
   case rel=>exact⟨n / 10,UInt8.ofNat (48+n % 10)::l,by go_num,by rw[HCC.out],by omega,HB.out,by rw[HD.out,HL.out];simp⟩
   case measure=>simp [intOf];omega
set_option maxHeartbeats 4000000 in
set_option maxRecDepth 100000 in
theorem number_any (n:Int) (w:World) (h0 : -9223372036854775808<=n) (h1:n<=9223372036854775807) :
 Calls Tryz.prog 158 #[.int .i64 n] w fun e w'=>e=.returned (.string ⟨(Lib.itoa n).toArray⟩)/\Below w.heap.size w w':=by
 by_cases hn:n<0
 ·obtain⟨u,rfl⟩:∃ u:Nat,n = -(u:Int):=⟨n.natAbs,by omega⟩
  have HE:Hid (Lib.itoa (-(u:Int))=45::Lib.decDigits u):=Lib.hid (Lib.itoa_neg u (by omega))
  have hd:=digits_any u w (by omega)
  have HD:=Lib.hid hd
  clear hd
  have hl:=Lib.decDigits_length u
  have hl2:=Lib.nDigits_le20 u (by omega)
  have hll:1+(Lib.decDigits u).length<=9223372036854775807:=by omega
  have h2:IntKind.u64.wrap (-IntKind.u64.wrap (-(u:Int)))=u:=by
   unfold IntKind.wrap
   simp [IntKind.signed,IntKind.bits]
   omega
  go_enter Tryz.func158,Tryz.ntmps158
  go_wp2_with fail
  refine HD.out.mono ?_
  rintro e w1 ⟨rfl,hb1⟩
  have HB1:=Lib.hid hb1
  clear hb1
  go_wp2_with fail
  go_ret
  refine⟨?_,HB1.out⟩
  rw[HE.out]
  have:(ByteArray.mk #[45]++ByteArray.mk (Lib.decDigits u).toArray)=⟨(45::Lib.decDigits u).toArray⟩:=by
   apply ByteArray.ext;simp
  rw[<-this];rfl
 ·obtain⟨u,rfl⟩:∃ u:Nat,n=u:=⟨n.toNat,by omega⟩
  have HE:Hid (Lib.itoa (u:Int)=Lib.decDigits u):=Lib.hid (Lib.itoa_nonneg u)
  have hd:=digits_any u w (by omega)
  have HD:=Lib.hid hd
  clear hd
  go_enter Tryz.func158,Tryz.ntmps158
  go_wp2_with fail
  refine HD.out.mono ?_
  rintro e w1 ⟨rfl,hb1⟩
  have HB1:=Lib.hid hb1
  clear hb1
  go_wp2_with fail
  go_ret
  exact⟨by rw[HE.out];rfl,HB1.out⟩
theorem ref_show_bad (k n:Int) (t:ByteArray) (w:World) (h:validB k n t.data.toList=false) :
 Calls Tryz.prog 77 #[.agg #[.int .i64 k,.int .i64 n,.string t]] w fun e w'=>e=.returned (.string ⟨(showR k n t.data.toList).toArray⟩)/\Below w.heap.size w w':=by
 have HB0:=Lib.hid (show Below w.heap.size w (w.alloc (.cells #[.int .i64 k,.int .i64 n,.string t] 111)) from balloc (Below.refl _ _) _)
 have hr:=fun W=>refValid_any k n t W
 rw[h] at hr
 have HR:=Lib.hid hr
 have HE:Hid (showR k n t.data.toList=[]):=Lib.hid (by unfold showR;rw[h];rfl)
 clear hr h
 go_enter Tryz.func77,Tryz.ntmps77
 go_wp2_with fail
 refine (HR.out _).mono ?_
 rintro e w1 ⟨rfl,hb1⟩
 have HB1:=Lib.hid (HB0.out.trans (hb1.mono (by simp)))
 clear hb1
 go_wp2_with fail
 go_ret
 exact⟨by rw[HE.out];rfl,HB1.out⟩
set_option maxHeartbeats 4000000 in
set_option maxRecDepth 100000 in
theorem ref_show_good (k n:Int) (t:ByteArray) (w:World) (h:validB k n t.data.toList=true) (h0 : -9223372036854775808<=n) (h1:n<=9223372036854775807) :
 Calls Tryz.prog 77 #[.agg #[.int .i64 k,.int .i64 n,.string t]] w fun e w'=>e=.returned (.string ⟨(showR k n t.data.toList).toArray⟩)/\Below w.heap.size w w':=by
 have HB0:=Lib.hid (show Below w.heap.size w (w.alloc (.cells #[.int .i64 k,.int .i64 n,.string t] 111)) from balloc (Below.refl _ _) _)
 have hr:=fun W=>refValid_any k n t W
 rw[h] at hr
 have HR:=Lib.hid hr
 have hE:showR k n t.data.toList=if k=1 then Lib.itoa n else 34::(showT t.data.toList++[34]):=by unfold showR;rw[h];rfl
 have hv:=h
 simp only[validB,decide_eq_true_eq] at hv
 clear hr
 by_cases hk:k=1
 ·rw[if_pos hk] at hE
  have HE:=Lib.hid hE
  have q1:(k == 1)=true:=by simpa using hk
  clear hE h hv hk
  go_enter Tryz.func77,Tryz.ntmps77
  go_wp2_with fail
  refine (HR.out _).mono ?_
  rintro e w1 ⟨rfl,hb1⟩
  have a0:=hb1.cell (p:=⟨w.heap.size,0,none⟩) (by simp)
  have a1:=hb1.cell (p:=⟨w.heap.size,1,none⟩) (by simp)
  simp [go_sem] at a0 a1
  have hz:=hb1.size
  simp at hz
  have HB1:=Lib.hid (HB0.out.trans (hb1.mono (by simp)))
  clear hb1
  go_wp2_with fail
  refine (number_any n _ h0 h1).mono ?_
  rintro e w2 ⟨rfl,hb2⟩
  have HB2:=Lib.hid (HB1.out.trans (hb2.mono (by omega)))
  clear hb2
  go_wp2_with fail
  go_ret
  exact⟨by rw[HE.out];rfl,HB2.out⟩
 ·rw[if_neg hk] at hE
  have HE:=Lib.hid hE
  have q1:(k == 1)=false:=by simpa using hk
  have hs64:t.size<=64:=by
   have hl:t.data.toList.length=t.size:=rfl
   omega
  clear hE h hv hk
  go_enter Tryz.func77,Tryz.ntmps77
  go_wp2_with fail
  refine (HR.out _).mono ?_
  rintro e w1 ⟨rfl,hb1⟩
  have a0:=hb1.cell (p:=⟨w.heap.size,0,none⟩) (by simp)
  have a2:=hb1.cell (p:=⟨w.heap.size,2,none⟩) (by simp)
  simp [go_sem] at a0 a2
  have hz:=hb1.size
  simp at hz
  have HB1:=Lib.hid (HB0.out.trans (hb1.mono (by simp)))
  clear hb1
  go_wp2_with fail
  go_loopw [3,4] (fun s ix wr=>∃ (k:Nat) (l:List UInt8),k<=t.size/\ix=.int .i64 k/\s=.string ⟨l.toArray⟩/\l=34::showT (t.data.toList.take k)/\Below (w.heap.size+1) w1 wr) (fun _ ix _=>t.size - (intOf ix).toNat)
  case atStart=>exact⟨0,[34],Nat.zero_le _,rfl,rfl,by simp [showT],Below.refl _ _⟩
  case round =>
   obtain⟨k,l,hk,rfl,rfl,hl,hbel⟩:=hrel
   have hc':=(hbel.cell (p:=⟨w.heap.size,2,none⟩) (by simp)).trans a2
   have hzr:=hbel.size
   have hsl:=showT_len (t.data.toList.take k)
   have hsl2:(t.data.toList.take k).length<=k:=by rw[List.length_take];exact Nat.min_le_left _ _
   have hll:l.length<=257:=by rw[hl,List.length_cons];omega
   by_cases hlt:k<t.size
   ·have hT:=showT_take t k hlt
    have hbd:((t[k]'hlt).toNat:Int)<=255:=by have:=(t[k]'hlt).toNat_lt;omega
    have hB:=fun W=>refByte_any ((t[k]'hlt).toNat:Int) W (by omega) hbd
    have hbl:(showB ((t[k]'hlt).toNat:Int)).length<=4:=by unfold showB;(repeat' split)<;>simp
    generalize hg:showB ((t[k]'hlt).toNat:Int)=sb at *
    have hcc:(ByteArray.mk l.toArray++ByteArray.mk sb.toArray)=⟨(l++sb).toArray⟩:=by apply ByteArray.ext;simp
    have hll2:l.length+sb.length<=9223372036854775807:=by omega
    have HCC:=Lib.hid hcc
    have HT:Hid (l++sb=34::showT (t.data.toList.take (k+1))):=Lib.hid (by rw[hl,hT];try rfl)
    have HBB:=Lib.hid hB
    clear hT hbd hB hbl hg hcc hl hsl hsl2
    go_wp2_with fail
    refine (HBB.out _).mono ?_
    rintro e w3 ⟨rfl,hb3⟩
    have HB3:=Lib.hid (hbel.trans (hb3.mono (by omega)))
    clear hb3
    go_wp2_with fail
    go_round
    case rel=>exact⟨k+1,l++sb,by omega,by go_num,by rw[HCC.out],HT.out,HB3.out⟩
    case measure=>simp [intOf];omega
   ·have hke:k=t.size:=by omega
    subst hke
    have htk:t.data.toList.take t.size=t.data.toList:=List.take_of_length_le (Nat.le_refl _)
    rw[htk] at hl
    have hcc:(ByteArray.mk l.toArray++ByteArray.mk #[34])=⟨(34::(showT t.data.toList++[34])).toArray⟩:=by apply ByteArray.ext;rw[hl];simp
    have HCC:=Lib.hid hcc
    have hll2:l.length+1<=9223372036854775807:=by omega
    have HB3:=Lib.hid hbel
    clear hcc hl hsl hsl2 htk hbel
    go_wp2_with fail
    go_ret
    exact⟨by rw[HE.out,<-HCC.out];rfl,HB1.out.trans (HB3.out.mono (by omega))⟩
theorem refShow_any (k n:Int) (t:ByteArray) (w:World) (h0 : -9223372036854775808<=n) (h1:n<=9223372036854775807) :
 Calls Tryz.prog 77 #[.agg #[.int .i64 k,.int .i64 n,.string t]] w fun e w'=>e=.returned (.string ⟨(showR k n t.data.toList).toArray⟩)/\Below w.heap.size w w':=by
 cases h:validB k n t.data.toList with
 | false=>exact ref_show_bad k n t w h
 | true=>exact ref_show_good k n t w h h0 h1
end Go.Proofs.YtgopfpjinohncaaGreatDoor
