/- value.Show of a text, walked. osierlaw01.awake, walked. osierref01.Byte, Digits, Number, Show, walked. osierref01.Valid and the law ValueValids, walked. osierref01.Digits, Number, walked. osierref01.small, walked. osierref01.unit, walked. osierref01.unit, walked. osierref01.scanText, walked. value.Compare, walked. osierref01.Texts, Compare, walked; the law ValueCompares. -/
import Derived.Test.YtamjadghncnbcaaGreatDoorLbO
import Derived.Test.YtamjadghncnbcaaGreatDoorLaO
import Derived.Test.YtamjadghncnbcaaGreatDoorProg
import Derived.Test.YtamjadghncnbcaaGreatDoorShelf
import Derived.KernelRfl
import Derived.Deep.RegionHeld3
import Derived.Deep.MidRow
import Derived.Lib.ItoaLen
import Derived.Lib.ConvBytes
import Derived.Lib.Bytealg
import Derived.WalkSpells
import Derived.WalkLawsBesides
import Derived.Deep.QuietTactic
import Derived.BigQuiet
import Derived.Lib.Hide
import Derived.StillTailTactics
import Derived.Handy
namespace Go.Proofs.YtamjadghncnbcaaGreatDoor
open Go.RowKit
set_option linter.unusedVariables false
theorem showT_take (t:ByteArray) (k:Nat) (h:k<t.size):showT (t.data.toList.take (k+1))=showT (t.data.toList.take k)++showB (((t[k]'h).toNat:Int)):=by
 have h':k<t.data.toList.length:=h
 rw[List.take_succ_eq_append_getElem h',showT,List.flatMap_append]
 simp only[List.flatMap_cons,List.flatMap_nil,List.append_nil,showT]
 rfl
set_option maxHeartbeats 4000000 in
set_option maxRecDepth 100000 in
theorem show_text (n:Int) (t:ByteArray) (w:World) (h:validB 2 n t.data.toList=true) :
 Calls Tryz.prog 124 #[.agg #[.int .i64 2,.int .i64 n,.string t]] w fun e w'=>e=.returned (.string ⟨(showR 2 n t.data.toList).toArray⟩)/\Below w.heap.size w w':=by
 have hs64:t.size<=64:=by
  have hl:t.data.toList.length=t.size:=rfl
  simp only[validB,hl,decide_eq_true_eq] at h
  omega
 have HE:Hid (showR 2 n t.data.toList=34::(showT t.data.toList++[34])):=Lib.hid (by rw[showR,h];rfl)
 have hB:IsBld (w.heap.size+1+1) (w.heap.size+1+1) [] (((w.alloc (.cells #[.int .i64 2,.int .i64 n,.string t] 69)).alloc (.cells #[.int .i64 2,.int .i64 n,.string t] 69)).alloc (.cells #[.pointer none,.slice none 0 0] 224)):=by
  have:=Lib.fresh_isBuilder 224 5 ((w.alloc (.cells #[.int .i64 2,.int .i64 n,.string t] 69)).alloc (.cells #[.int .i64 2,.int .i64 n,.string t] 69))
  simp only[World.size_alloc] at this
  exact this
 have HB:=Lib.hid hB
 have hb0:Below w.heap.size w (((w.alloc (.cells #[.int .i64 2,.int .i64 n,.string t] 69)).alloc (.cells #[.int .i64 2,.int .i64 n,.string t] 69)).alloc (.cells #[.pointer none,.slice none 0 0] 224)):=balloc (balloc (balloc (Below.refl _ _) _) _) _
 have HB0:=Lib.hid hb0
 clear hB hb0
 go_enter Tryz.func124,Tryz.ntmps124
 go_wp2_with fail
 refine (valid_any 2 n t _).mono ?_
 rintro e w1 ⟨rfl,rfl⟩
 rw[h]
 go_wp2_with fail
 refine (writeByte_l (w.heap.size+1+1) (w.heap.size+1+1) [] 34 _ HB.out (by simp) (by simp) (by omega) (by omega)).mono ?_
 rintro e w2 ⟨rfl,hw2,hb2⟩
 have hc:=hb2.cell (p:=⟨w.heap.size,2,none⟩) (by simp;omega)
 simp [go_sem] at hc
 have hz:=hb2.size
 simp at hz
 have HW2:=Lib.hid hw2
 have HB2:=Lib.hid hb2
 clear hw2 hb2
 have HH:=Lib.hid h
 clear h
 go_wp2_with fail
 go_loopw [18] (fun ix wr=>∃ (k:Nat),k<=t.size/\ix=.int .i64 k/\BldAt (w.heap.size+1+1) (w.heap.size+1+1) (.pointer (some ⟨w.heap.size+1+1,0,none⟩)) (34::showT (t.data.toList.take k)) wr/\Below (w.heap.size+1+1) w2 wr) (fun ix _=>t.size - (intOf ix).toNat)
 case atStart =>
  exact⟨0,Nat.zero_le _,rfl,by simpa [showT] using HW2.out,Below.refl _ _⟩
 case round =>
  obtain⟨k,hk,rfl,hbld,hbel⟩:=hrel
  have hc':=(hbel.cell (p:=⟨w.heap.size,2,none⟩) (by simp;omega)).trans hc
  have hzr:=hbel.size
  have HBL:=Lib.hid hbld
  clear hbld
  have hsl:=showT_len (t.data.toList.take k)
  have hsl2:(t.data.toList.take k).length<=k:=by rw[List.length_take];exact Nat.min_le_left _ _
  by_cases hlt:k<t.size
  ·have HT:=Lib.hid (showT_take t k hlt)
   have hbd:((t[k]'hlt).toNat:Int)<=255:=by have:=(t[k]'hlt).toNat_lt;omega
   have HBD:=Lib.hid hbd
   clear hbd
   go_wp2_with fail
   refine (showByte_any (w.heap.size+1+1) (w.heap.size+1+1) _ _ wr (.inr HBL.out) (by simp;omega) (by omega) (by omega) HBD.out).mono ?_
   rintro e w3 ⟨rfl,hw3,hb3⟩
   have HW3:=Lib.hid hw3
   clear hw3
   go_wp2_with fail
   exact⟨⟨k+1,by omega,congrArg (Value.int .i64) (by omega),by rw[HT.out];exact HW3.out,hbel.trans hb3⟩,by simp only[intOf];omega⟩
  ·have hke:k=t.size:=by omega
   subst hke
   have htk:t.data.toList.take t.size=t.data.toList:=List.take_of_length_le (Nat.le_refl _)
   rw[htk] at hsl
   have HT:=Lib.hid htk
   clear htk hsl2
   go_wp2_with fail
   refine (writeByte_l (w.heap.size+1+1) (w.heap.size+1+1) _ 34 wr (.inr HBL.out) (by rw[HT.out];simp only[List.length_cons];have:t.data.toList.length=t.size:=rfl;omega) (by omega) (by omega) (by omega)).mono ?_
   rintro e w3 ⟨rfl,hw3,hb3⟩
   have HW3:=Lib.hid hw3
   have hb3s:=hb3.size
   clear hw3
   go_wp2_with fail
   refine (Tryz.Builder_String_any (w.heap.size+1+1) (w.heap.size+1+1) _ w3 (.inr HW3.out) (by omega)).mono ?_
   rintro e w4 ⟨rfl,hb4⟩
   go_wp2_with fail
   go_ret
   refine⟨?_,HB0.out.trans ((((HB2.out.trans hbel).trans hb3).trans hb4).mono (by omega))⟩
   rw[HE.out,HT.out]
   rfl
theorem show_any (k n:Int) (t:ByteArray) (w:World) (h0 : -9223372036854775808<=n) (h1:n<=9223372036854775807) (hg:Glob w) :
 Calls Tryz.prog 124 #[.agg #[.int .i64 k,.int .i64 n,.string t]] w fun e w'=>e=.returned (.string ⟨(showR k n t.data.toList).toArray⟩)/\Below w.heap.size w w':=by
 cases h:validB k n t.data.toList with
 | false=>exact show_bad k n t w h
 | true =>
   have hk:k=1∨k=2:=by
    simp only[validB,decide_eq_true_eq] at h
    omega
   rcases hk with rfl | rfl
   ·exact show_num n t w h h0 h1 hg
   ·exact show_text n t w h
def low (c:UInt8):UInt8:=if 65<=c.toNat/\c.toNat<=70 then c+32 else c
def SmR (w:World) (g:Nat) (l:List UInt8):Prop :=
 ∃ cs:Array Value,w.heap[g]? = some (.cells cs 5 (cs.size,cs.size+1))/\4<=cs.size/\∀ j,j<4->cs[j]? = some (.int .u8 ((l.getD j 0).toNat:Int))
theorem SmR.cell {w:World} {g:Nat} {l:List UInt8} (h:SmR w g l) {j:Nat} (hj:j<4):w.cell? ⟨g,j,none⟩=some (.int .u8 ((l.getD j 0).toNat:Int)):=by
 obtain⟨cs,h1,h2,h3⟩:=h
 rw[cell_of_row w g j cs _ _ h1]
 exact h3 j hj
theorem SmR.frozen {w:World} {g:Nat} {l:List UInt8} (h:SmR w g l) {j:Nat} (hj:j<4):w.frozen? ⟨g,j,none⟩=false:=by
 obtain⟨cs,h1,h2,h3⟩:=h
 simp [World.frozen?,h1]
 omega
theorem SmR.set_ {w:World} {g:Nat} {l l':List UInt8} (h:SmR w g l) {j:Nat} {u:Value} (hj:j<4) (hu:u=.int .u8 ((l'.getD j 0).toNat:Int)) (hl:∀ i,i<4->i≠j->l'.getD i 0=l.getD i 0):SmR (w.setCell ⟨g,j,none⟩ u) g l':=by
 obtain⟨cs,h1,h2,h3⟩:=h
 refine⟨cs.setIfInBounds j u,?_,by simpa using h2,fun i hi=>?_⟩
 ·simp [World.setCell,Array.getElem?_modify,h1]
 ·rw[Array.getElem?_setIfInBounds]
  by_cases e:j=i
  ·subst e
   rw[if_pos rfl,if_pos (by omega),hu]
  ·rw[if_neg e,hl i hi (fun k=>e k.symm)]
   exact h3 i hi
theorem SmR.lt {w:World} {g:Nat} {l:List UInt8} (h:SmR w g l):g<w.heap.size:=by
 obtain⟨cs,h1,_⟩:=h
 rcases Nat.lt_or_ge g w.heap.size with hlt | hge
 ·exact hlt
 ·rw[Array.getElem?_eq_none hge] at h1;cases h1
end Go.Proofs.YtamjadghncnbcaaGreatDoor
namespace Go.Proofs.YtamjadghncnbcaaGreatDoor
open Go.RowKit
end Go.Proofs.YtamjadghncnbcaaGreatDoor
