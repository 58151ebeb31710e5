/- osierlaw07.LexFaults, walked. value.Show of a text, walked. osierlaw01.awake, walked. value.Compare, walked. reader.Open, walked, given what Tokens tells. reader.Open at a line. osierref08.Open, walked. -/
import Derived.Test.YtgopfpjinohncaaGreatDoorLxV
import Derived.Test.YtgopfpjinohncaaGreatDoorLcV
import Derived.Test.YtgopfpjinohncaaGreatDoorLbV
import Derived.Test.YtgopfpjinohncaaGreatDoorLaV
import Derived.Test.YtgopfpjinohncaaGreatDoorProg
import Derived.Test.YtgopfpjinohncaaGreatDoorShelfZV
import Derived.Test.YtgopfpjinohncaaGreatDoorGaV
import Derived.Test.YtgopfpjinohncaaGreatDoorGnV
import Derived.BigQuiet
import Derived.KernelRfl
import Derived.Laws.OwnMore
import Derived.Lib.Bytealg
import Derived.WalkSpells
import Derived.WalkLawsBesides
import Derived.Deep.QuietTactic
import Derived.Lib.Hide
import Derived.StillTailTactics
import Derived.Handy
import Derived.Deep.RegionHeld3
import Derived.Deep.RegionLaw
import Derived.Deep.Cut
import Derived.Deep.CutRange
import Derived.Deep.DeepCutAuto
import Derived.Lib.ConvBytes
import Derived.Lib.ItoaLen
import Derived.Deep.MidRow
namespace Go.Proofs.YtgopfpjinohncaaGreatDoor
open Go.RowKit
set_option linter.unusedVariables false
theorem lexR_short {l:List UInt8} (h:l.length<=16384):lexR l=LX l 0:=by unfold lexR;rw[if_neg (by omega)]
theorem lexR_long {l:List UInt8} (h:16384<l.length):lexR l=⟨[],0,70⟩:=by unfold lexR;rw[if_pos h]
theorem showT_take (t:ByteArray) (k:Nat) (h:k<t.size):showT (t.data.toList.take (k+1))=showT (t.data.toList.take k)++showB (((t[k]'h).toNat:Int)):=by
 have h':k<t.data.toList.length:=h
 rw[List.take_succ_eq_append_getElem h',showT,List.flatMap_append]
 simp only[List.flatMap_cons,List.flatMap_nil,List.append_nil,showT]
 rfl
set_option maxHeartbeats 4000000 in
set_option maxRecDepth 100000 in
theorem show_text (n:Int) (t:ByteArray) (w:World) (h:validB 2 n t.data.toList=true) :
 Calls Tryz.prog 150 #[.agg #[.int .i64 2,.int .i64 n,.string t]] w fun e w'=>e=.returned (.string ⟨(showR 2 n t.data.toList).toArray⟩)/\Below w.heap.size w w':=by
 have hs64:t.size<=64:=by
  have hl:t.data.toList.length=t.size:=rfl
  simp only[validB,hl,decide_eq_true_eq] at h
  omega
 have HE:Hid (showR 2 n t.data.toList=34::(showT t.data.toList++[34])):=Lib.hid (by rw[showR,h];rfl)
 have hB:IsBld (w.heap.size+1+1) (w.heap.size+1+1) [] (((w.alloc (.cells #[.int .i64 2,.int .i64 n,.string t] 111)).alloc (.cells #[.int .i64 2,.int .i64 n,.string t] 111)).alloc (.cells #[.pointer none,.slice none 0 0] 156)):=by
  have:=Lib.fresh_isBuilder 156 5 ((w.alloc (.cells #[.int .i64 2,.int .i64 n,.string t] 111)).alloc (.cells #[.int .i64 2,.int .i64 n,.string t] 111))
  simp only[World.size_alloc] at this
  exact this
 have HB:=Lib.hid hB
 have hb0:Below w.heap.size w (((w.alloc (.cells #[.int .i64 2,.int .i64 n,.string t] 111)).alloc (.cells #[.int .i64 2,.int .i64 n,.string t] 111)).alloc (.cells #[.pointer none,.slice none 0 0] 156)):=balloc (balloc (balloc (Below.refl _ _) _) _) _
 have HB0:=Lib.hid hb0
 clear hB hb0
 go_enter Tryz.func150,Tryz.ntmps150
 go_wp2_with fail
 refine (valid_any 2 n t _).mono ?_
 rintro e w1 ⟨rfl,rfl⟩
 rw[h]
 go_wp2_with fail
 refine (writeByte_l (w.heap.size+1+1) (w.heap.size+1+1) [] 34 _ HB.out (by simp) (by simp) (by omega) (by omega)).mono ?_
 rintro e w2 ⟨rfl,hw2,hb2⟩
 have hc:=hb2.cell (p:=⟨w.heap.size,2,none⟩) (by simp;omega)
 simp [go_sem] at hc
 have hz:=hb2.size
 simp at hz
 have HW2:=Lib.hid hw2
 have HB2:=Lib.hid hb2
 clear hw2 hb2
 have HH:=Lib.hid h
 clear h
 go_wp2_with fail
 go_loopw [18] (fun ix wr=>∃ (k:Nat),k<=t.size/\ix=.int .i64 k/\BldAt (w.heap.size+1+1) (w.heap.size+1+1) (.pointer (some ⟨w.heap.size+1+1,0,none⟩)) (34::showT (t.data.toList.take k)) wr/\Below (w.heap.size+1+1) w2 wr) (fun ix _=>t.size - (intOf ix).toNat)
 case atStart =>
  exact⟨0,Nat.zero_le _,rfl,by simpa [showT] using HW2.out,Below.refl _ _⟩
 case round =>
  obtain⟨k,hk,rfl,hbld,hbel⟩:=hrel
  have hc':=(hbel.cell (p:=⟨w.heap.size,2,none⟩) (by simp;omega)).trans hc
  have hzr:=hbel.size
  have HBL:=Lib.hid hbld
  clear hbld
  have hsl:=showT_len (t.data.toList.take k)
  have hsl2:(t.data.toList.take k).length<=k:=by rw[List.length_take];exact Nat.min_le_left _ _
  by_cases hlt:k<t.size
  ·have HT:=Lib.hid (showT_take t k hlt)
   have hbd:((t[k]'hlt).toNat:Int)<=255:=by have:=(t[k]'hlt).toNat_lt;omega
   have HBD:=Lib.hid hbd
   clear hbd
   go_wp2_with fail
   refine (showByte_any (w.heap.size+1+1) (w.heap.size+1+1) _ _ wr (.inr HBL.out) (by simp;omega) (by omega) (by omega) HBD.out).mono ?_
   rintro e w3 ⟨rfl,hw3,hb3⟩
   have HW3:=Lib.hid hw3
   clear hw3
   go_wp2_with fail
   exact⟨⟨k+1,by omega,congrArg (Value.int .i64) (by omega),by rw[HT.out];exact HW3.out,hbel.trans hb3⟩,by simp only[intOf];omega⟩
  ·have hke:k=t.size:=by omega
   subst hke
   have htk:t.data.toList.take t.size=t.data.toList:=List.take_of_length_le (Nat.le_refl _)
   rw[htk] at hsl
   have HT:=Lib.hid htk
   clear htk hsl2
   go_wp2_with fail
   refine (writeByte_l (w.heap.size+1+1) (w.heap.size+1+1) _ 34 wr (.inr HBL.out) (by rw[HT.out];simp only[List.length_cons];have:t.data.toList.length=t.size:=rfl;omega) (by omega) (by omega) (by omega)).mono ?_
   rintro e w3 ⟨rfl,hw3,hb3⟩
   have HW3:=Lib.hid hw3
   have hb3s:=hb3.size
   clear hw3
   go_wp2_with fail
   refine (Tryz.Builder_String_any (w.heap.size+1+1) (w.heap.size+1+1) _ w3 (.inr HW3.out) (by omega)).mono ?_
   rintro e w4 ⟨rfl,hb4⟩
   go_wp2_with fail
   go_ret
   refine⟨?_,HB0.out.trans ((((HB2.out.trans hbel).trans hb3).trans hb4).mono (by omega))⟩
   rw[HE.out,HT.out]
   rfl
theorem show_any (k n:Int) (t:ByteArray) (w:World) (h0 : -9223372036854775808<=n) (h1:n<=9223372036854775807) (hg:Glob w) :
 Calls Tryz.prog 150 #[.agg #[.int .i64 k,.int .i64 n,.string t]] w fun e w'=>e=.returned (.string ⟨(showR k n t.data.toList).toArray⟩)/\Below w.heap.size w w':=by
 cases h:validB k n t.data.toList with
 | false=>exact show_bad k n t w h
 | true =>
   have hk:k=1∨k=2:=by
    simp only[validB,decide_eq_true_eq] at h
    omega
   rcases hk with rfl | rfl
   ·exact show_num n t w h h0 h1 hg
   ·exact show_text n t w h
def cmpI (a b:Int):Int:=if a<b then -1 else if b<a then 1 else 0
def orI (x y z:Int):Int:=if x=0 then (if y=0 then z else y) else x
set_option maxHeartbeats 400000 in
theorem cmpKind_any (a b:Int) (w:World):Calls Tryz.prog 229 #[.int .i64 a,.int .i64 b] w fun e w'=>e=.returned (.int .i64 (cmpI a b))/\w=w':=by
 have t0:(a != a)=false:=by simp
 have t1:(b != b)=false:=by simp
 by_cases h:a<b
 ·have e:cmpI a b = -1:=by simp [cmpI,h]
  have HE:=Lib.hid e
  clear e
  go_enter Tryz.func229,Tryz.ntmps229
  go_wp2
  go_ret
  exact⟨by rw[HE.out];rfl,rfl⟩
 ·by_cases h2:b<a
  ·have e:cmpI a b=1:=by simp [cmpI,h,h2]
   have HE:=Lib.hid e
   clear e
   go_enter Tryz.func229,Tryz.ntmps229
   go_wp2
   go_ret
   exact⟨by rw[HE.out];rfl,rfl⟩
  ·have e:cmpI a b=0:=by simp [cmpI,h,h2]
   have HE:=Lib.hid e
   clear e
   go_enter Tryz.func229,Tryz.ntmps229
   go_wp2
   go_ret
   exact⟨by rw[HE.out];rfl,rfl⟩
set_option maxHeartbeats 400000 in
theorem cmpInt_any (a b:Int) (w:World):Calls Tryz.prog 230 #[.int .i64 a,.int .i64 b] w fun e w'=>e=.returned (.int .i64 (cmpI a b))/\w=w':=by
 have t0:(a != a)=false:=by simp
 have t1:(b != b)=false:=by simp
 by_cases h:a<b
 ·have e:cmpI a b = -1:=by simp [cmpI,h]
  have HE:=Lib.hid e
  clear e
  go_enter Tryz.func230,Tryz.ntmps230
  go_wp2
  go_ret
  exact⟨by rw[HE.out];rfl,rfl⟩
 ·by_cases h2:b<a
  ·have e:cmpI a b=1:=by simp [cmpI,h,h2]
   have HE:=Lib.hid e
   clear e
   go_enter Tryz.func230,Tryz.ntmps230
   go_wp2
   go_ret
   exact⟨by rw[HE.out];rfl,rfl⟩
  ·have e:cmpI a b=0:=by simp [cmpI,h,h2]
   have HE:=Lib.hid e
   clear e
   go_enter Tryz.func230,Tryz.ntmps230
   go_wp2
   go_ret
   exact⟨by rw[HE.out];rfl,rfl⟩
set_option maxHeartbeats 1000000 in
theorem or_any (x y z:Int) (B:Nat) (w:World) (h0:w.cell? ⟨B,0,none⟩=some (.int .i64 x)) (h1:w.cell? ⟨B,1,none⟩=some (.int .i64 y)) (h2:w.cell? ⟨B,2,none⟩=some (.int .i64 z)) :
 Calls Tryz.prog 228 #[.slice (some ⟨B,0,none⟩) 3 3] w fun e w'=>e=.returned (.int .i64 (orI x y z))/\w=w':=by
 by_cases hx:x=0
 ·subst hx
  by_cases hy:y=0
  ·subst hy
   by_cases hz:z=0
   ·subst hz
    go_enter Tryz.func228,Tryz.ntmps228
    go_wp2
    go_rounds 5
    go_ret
    exact⟨rfl,rfl⟩
   ·have hz':(z != 0)=true:=by simpa using hz
    go_enter Tryz.func228,Tryz.ntmps228
    go_wp2
    go_rounds 5
    go_ret
    exact⟨rfl,rfl⟩
  ·have hy':(y != 0)=true:=by simpa using hy
   go_enter Tryz.func228,Tryz.ntmps228
   go_wp2
   go_rounds 5
   go_ret
   exact⟨by simp [orI,hy],rfl⟩
 ·have hx':(x != 0)=true:=by simpa using hx
  go_enter Tryz.func228,Tryz.ntmps228
  go_wp2
  go_rounds 5
  go_ret
  exact⟨by simp [orI,hx],rfl⟩
def cmpV (k1 n1:Int) (t1:ByteArray) (k2 n2:Int) (t2:ByteArray):Int:=orI (cmpI k1 k2) (cmpI n1 n2) (Lib.compareBytes t1.data.toList t2.data.toList)
set_option maxHeartbeats 4000000 in
set_option maxRecDepth 100000 in
theorem open_bad_of (s:ByteArray) (w:World) (ts:List Tok) (a e0:Int) (he:e0≠0)
 (ht:Calls Tryz.prog 103 #[.string s] w fun x w'=>∃ ad cap,x=.returned (.tuple #[.slice ad ts.length cap,.int .i64 a,.int .i64 e0])/\w'.ownsRow w.heap.size 122 6 (.slice ad ts.length cap) ts.length (tcells ts)/\Below w.heap.size w w') :
 Calls Tryz.prog 54 #[.string s] w fun e w'=>e=.panicked [{ v:=faultV a e0,recovered:=false }]/\Below w.heap.size w w':=by
 have HT:=Lib.hid ht
 have q0:(e0 != 0)=true:=by simpa using he
 unfold faultV
 clear he ht
 go_enter Tryz.func54,Tryz.ntmps54
 go_wp2_with fail
 refine HT.out.mono ?_
 rintro e w1 ⟨ad,cap,rfl,hown,hb⟩
 have HB:=Lib.hid hb
 clear hown hb
 go_wp2_with fail
 exact⟨rfl,rfl,HB.out⟩
set_option maxHeartbeats 4000000 in
set_option maxRecDepth 100000 in
theorem open_good_of (s:ByteArray) (w:World) (ts:List Tok) (a e0:Int) (he:e0=0) (hen:Ended ts) (hln:ts.length<=100000)
 (ht:Calls Tryz.prog 103 #[.string s] w fun x w'=>∃ ad cap,x=.returned (.tuple #[.slice ad ts.length cap,.int .i64 a,.int .i64 e0])/\w'.ownsRow w.heap.size 122 6 (.slice ad ts.length cap) ts.length (tcells ts)/\Below w.heap.size w w') :
 Calls Tryz.prog 54 #[.string s] w fun e w'=>∃ r vt,e=.returned (.pointer (some ⟨r,0,none⟩))/\w.heap.size<=r/\Rs w' r ts vt/\Below w.heap.size w w':=by
 subst he
 have HT:=Lib.hid ht
 have HE:=Lib.hid hen
 clear ht hen
 go_enter Tryz.func54,Tryz.ntmps54
 go_wp2_with fail
 refine HT.out.mono ?_
 rintro e w1 ⟨ad,cap,rfl,hown,hb⟩
 have HB:=Lib.hid hb
 have HO:=Lib.hid hown
 have hz:=hb.size
 clear hown hb
 go_wp2_with fail
 go_ret
 refine⟨w1.heap.size,_,rfl,hz,⟨ts,0,⟨Blk.new _ _ _,?_,hln⟩,rfl,HE.out⟩,balloc HB.out _⟩
 exact (World.ownsRow.alloc ⟨HO.out.1,(HO.out.2).imp id (fun⟨g,c,cur,h1,h2,h3⟩=>⟨g,c,cur,h1,Nat.zero_le _,h3⟩)⟩ _)
theorem LX_ended:∀ (m:Nat) (r:List UInt8) (p:Nat),r.length<=m->(LX r p).e=0->Ended (LX r p).ts/\(LX r p).ts.length<=r.length+1:=by
 intro m
 have hend:∀ (r:List UInt8) (p:Nat),r=[]∨bt r 0=35->Ended (LX r p).ts/\(LX r p).ts.length<=r.length+1:=by
  intro r p h
  rw[LX_end h]
  exact⟨by simp [Ended,endTok],by simp⟩
 induction m with
 | zero =>
   intro r p h _
   exact hend r p (.inl (List.length_eq_zero_iff.1 (by omega)))
 | succ m ih =>
   intro r p h
   by_cases h0:r=[]∨bt r 0=35
   ·exact fun _=>hend r p h0
   ·have hr:r≠[]:=fun e=>h0 (.inl e)
    have hl:=List.length_pos_iff.2 hr
    by_cases hb:spB (bt r 0)=true
    ·rw[LX_blank h0 hb]
     intro he
     have:=ih _ _ (by rw[List.length_drop];omega) he
     rw[List.length_drop] at this
     exact⟨this.1,by omega⟩
    ·have hb':spB (bt r 0)=false:=by simpa using hb
     by_cases he:(oneS r p).2=0
     ·have h3:=(one_len he hr).1
      have hk:=(one_kind he).1
      have:=ih (r.drop (oneS r p).1.x.length) (p+(oneS r p).1.x.length) (by rw[List.length_drop];omega)
      rw[List.length_drop] at this
      rw[LX_one h0 hb' he]
      split
      ·intro h9
       exact absurd h9 (by assumption)
      ·rename_i h9
       intro _
       have h8:=this (by simpa using h9)
       refine⟨?_,by simp;omega⟩
       unfold Ended
       rw[if_neg hk]
       exact h8.1
     ·rw[LX_bad h0 hb' he]
      exact fun h=>absurd h he
theorem lex_ended {l:List UInt8} (h:(lexR l).e=0):Ended (lexR l).ts/\(lexR l).ts.length<=100000:=by
 unfold lexR at h ⊢
 by_cases hl:16384<l.length
 ·rw[if_pos hl] at h
  exact absurd h (by decide)
 ·rw[if_neg hl] at h ⊢
  have:=LX_ended _ l 0 (Nat.le_refl _) h
  exact⟨this.1,by omega⟩
theorem open_bad (s:ByteArray) (w:World) (hs:s.size<=281474976710656) (hg:Glob w) (he:(lexR s.data.toList).e≠0) :
 Calls Tryz.prog 54 #[.string s] w fun e w'=>e=.panicked [{ v:=faultV (lexR s.data.toList).at_ (lexR s.data.toList).e,recovered:=false }]/\Below w.heap.size w w' :=
 open_bad_of s w (lexR s.data.toList).ts _ _ he (tokens_any s w hs hg)
theorem open_good (s:ByteArray) (w:World) (hs:s.size<=281474976710656) (hg:Glob w) (he:(lexR s.data.toList).e=0) :
 Calls Tryz.prog 54 #[.string s] w fun e w'=>∃ r vt,e=.returned (.pointer (some ⟨r,0,none⟩))/\w.heap.size<=r/\Rs w' r (lexR s.data.toList).ts vt/\Below w.heap.size w w' :=
 open_good_of s w (lexR s.data.toList).ts _ _ he (lex_ended he).1 (lex_ended he).2 (tokens_any s w hs hg)
def startS (R:LxR):LS:=if R.e=0 then .ok R.ts else .bad R.at_ R.e
end Go.Proofs.YtgopfpjinohncaaGreatDoor
