/- The laws ValueScans, ValueReads: the parts joined. osierref07.IsName; what Tokens' document asks, plainly. -/
import Derived.Test.YtamjadghncnbcaaGreatDoorLeT
import Derived.Test.YtamjadghncnbcaaGreatDoorLbT
import Derived.Test.YtamjadghncnbcaaGreatDoorLfT
namespace Go.Proofs.YtamjadghncnbcaaGreatDoor
open Go.RowKit
set_option linter.unusedVariables false
set_option maxHeartbeats 8000000 in
set_option maxRecDepth 100000 in
theorem refName_any (s:ByteArray) (w:World) (hs:s.size<=281474976710656) :
 Calls Tryz.prog 71 #[.string s] w fun e w'=>e=.returned (.bool (isNameB s.data.toList))/\w=w':=by
 have hsl:s.data.toList.length=s.size:=rfl
 have hE:isNameB s.data.toList=(decide (1<=s.size) && decide (s.size<=16) && !(amongB setD (bt s.data.toList 0)) && decide (nameRun s.data.toList=s.size)):=by
  have hb:=bt_bd s.data.toList 0
  rw[among_digits hb.1 hb.2]
  unfold isNameB
  rw[hsl]
  by_cases h1:1<=s.size
  ·have hne:s.data.toList≠[]:=fun e=>by rw[e] at hsl;simp at hsl;omega
   by_cases hn:nameRun s.data.toList=s.size
   ·have hld:letB (bt s.data.toList 0) = !(digB (bt s.data.toList 0)):=by
     cases hd:(letB (bt s.data.toList 0) || digB (bt s.data.toList 0)) with
     | false =>
       have:=nameRun_stop (l:=s.data.toList) (k:=0) (by omega) hd
       rw[List.drop_zero] at this
       omega
     | true =>
       cases hdd:digB (bt s.data.toList 0) with
       | true =>
         simp only[digB,decide_eq_true_eq] at hdd
         simp only[letB,Bool.not_true,decide_eq_false_iff_not]
         omega
       | false=>rw[hdd,Bool.or_false] at hd;rw[hd];rfl
    by_cases h16:s.size<=16<;>cases hdd:digB (bt s.data.toList 0)<;>rw[hdd] at hld<;>simp [h1,hn,h16,hld,hne]
   ·simp [hn]
  ·have hd:s.data.toList=[]:=List.length_eq_zero_iff.1 (by omega)
   simp [h1,hd]
 have hrn:=fun W=>run_any s 0 ⟨#[97,98,99,100,101,102,103,104,105,106,107,108,109,110,111,112,113,114,115,116,117,118,119,120,121,122,65,66,67,68,69,70,71,72,73,74,75,76,77,78,79,80,81,82,83,84,85,86,87,88,89,90,95,48,49,50,51,52,53,54,55,56,57]⟩ W (Nat.zero_le _) hs (by decide)
 rw[List.drop_zero,show (ByteArray.mk #[97,98,99,100,101,102,103,104,105,106,107,108,109,110,111,112,113,114,115,116,117,118,119,120,121,122,65,66,67,68,69,70,71,72,73,74,75,76,77,78,79,80,81,82,83,84,85,86,87,88,89,90,95,48,49,50,51,52,53,54,55,56,57]).data.toList=setL++setD from rfl,run_names] at hrn
 have ham:=fun c W=>among_any c ⟨#[48,49,50,51,52,53,54,55,56,57]⟩ W (by decide)
 rw[show (ByteArray.mk #[48,49,50,51,52,53,54,55,56,57]).data.toList=setD from rfl] at ham
 rw[hE]
 have HRN:=Lib.hid hrn
 have HAM:=Lib.hid ham
 clear hE hrn ham hsl
 generalize nameRun s.data.toList=n at *
 by_cases h1:1<=s.size
 ·have hbt:=bt_of s 0 h1
  generalize bt s.data.toList 0=c at *
  rw[decide_eq_true h1,Bool.true_and]
  by_cases h16:s.size<=16
  ·rw[decide_eq_true h16,Bool.true_and]
   cases ha:amongB setD c with
   | true =>
     go_enter Tryz.func71,Tryz.ntmps71
     go_wp2_with (first | (go_at_call 136;refine (HAM.out _ _).mono ?_;rintro e w' ⟨rfl,rfl⟩) | (go_at_call 137;refine (HRN.out _).mono ?_;rintro e w' ⟨rfl,rfl⟩))
     go_ret
     exact⟨rfl,rfl⟩
   | false =>
     by_cases hn:n=s.size
     ·have qn:((n:Int) == (s.size:Int))=true:=by simp [hn]
      rw[decide_eq_true hn]
      clear hn
      go_enter Tryz.func71,Tryz.ntmps71
      go_wp2_with (first | (go_at_call 136;refine (HAM.out _ _).mono ?_;rintro e w' ⟨rfl,rfl⟩) | (go_at_call 137;refine (HRN.out _).mono ?_;rintro e w' ⟨rfl,rfl⟩))
      go_ret
      exact⟨rfl,rfl⟩
     ·have qn:((n:Int) == (s.size:Int))=false:=by rw[beq_eq_false_iff_ne];omega
      rw[decide_eq_false hn]
      clear hn
      go_enter Tryz.func71,Tryz.ntmps71
      go_wp2_with (first | (go_at_call 136;refine (HAM.out _ _).mono ?_;rintro e w' ⟨rfl,rfl⟩) | (go_at_call 137;refine (HRN.out _).mono ?_;rintro e w' ⟨rfl,rfl⟩))
      go_ret
      exact⟨rfl,rfl⟩
  ·rw[decide_eq_false h16,Bool.false_and]
   go_enter Tryz.func71,Tryz.ntmps71
   go_wp2_with fail
   go_ret
   exact⟨rfl,rfl⟩
 ·rw[decide_eq_false h1,Bool.false_and]
  go_enter Tryz.func71,Tryz.ntmps71
  go_wp2_with fail
  go_ret
  exact⟨rfl,rfl⟩
end Go.Proofs.YtamjadghncnbcaaGreatDoor
