/- The laws ValueScans, ValueReads: the parts joined. osierref07.IsName; what Tokens' document asks, plainly. -/
import Derived.Test.YtamjadghncnbcaaGreatDoorVscZW
import Derived.Test.YtamjadghncnbcaaGreatDoorDeW
import Derived.Test.YtamjadghncnbcaaGreatDoorDfW
import Derived.Test.YtamjadghncnbcaaGreatDoorDgW
import Derived.Test.YtamjadghncnbcaaGreatDoorLfW
namespace Go.Proofs.YtamjadghncnbcaaGreatDoor
open Go.RowKit
set_option linter.unusedVariables false
theorem numOk:NumOk:=by
 intro s a w ha hs hq
 by_cases hm:bt s.data.toList a=45
 ·rw[num_minus ha hm]
  by_cases he:(refNum s.data.toList a (a+1)).e=0
  ·refine refMinusOka s a w ha hs hm hq ⟨he,fun h0=>?_⟩
   unfold refNum at he
   split at he
   ·simp [bad] at he
   ·rw[if_pos ⟨h0,.inr (by omega)⟩] at he
    simp [bad] at he
  ·by_cases hb:bt s.data.toList (a+1)=48
   ·exact refMinusBada s a w ha hs hm hq ⟨he,hb⟩
   ·exact refMinusBadb s a w ha hs hm hq ⟨he,hb⟩
 ·rw[num_plain ha hm hq]
  by_cases he:(refNum s.data.toList a a).e=0
  ·by_cases hb:bt s.data.toList a=48
   ·exact refPlainOkb s a w ha hs hm hq ⟨he,hb⟩
   ·exact refPlainOka s a w ha hs hm hq ⟨he,hb⟩
  ·exact refPlainBad s a w ha hs hm hq he
theorem run_take (l:List UInt8):∀ c∈l.take (runB [32,9] l),c=32∨c=9:=by
 rw[run_blanks]
 intro c hc
 have h1:l.take (l.takeWhile fun c=>spB c.toNat).length=l.takeWhile fun c=>spB c.toNat:=by
  have hp:=List.takeWhile_prefix (fun c:UInt8=>spB c.toNat) (l:=l)
  exact (List.prefix_iff_eq_take.1 hp).symm
 rw[h1] at hc
 have h2:=List.all_eq_true.1 (List.all_takeWhile (p:=fun c:UInt8=>spB c.toNat) (l:=l)) c hc
 unfold spB at h2
 rcases of_decide_eq_true h2 with h | h
 ·exact .inl (UInt8.toNat_inj.1 (show c.toNat=32 by omega))
 ·exact .inr (UInt8.toNat_inj.1 (show c.toNat=9 by omega))
theorem LX_run (l:List UInt8) (k:Nat) (hk:k<=l.length):LX (l.drop k) k=LX (l.drop (k+runB [32,9] (l.drop k))) (k+runB [32,9] (l.drop k)):=by
 have hn:=runB_le [32,9] (l.drop k)
 have h:=LX_skip ((l.drop k).take (runB [32,9] (l.drop k))) ((l.drop k).drop (runB [32,9] (l.drop k))) (run_take (l.drop k)) k
 rw[List.take_append_drop,List.length_take,Nat.min_eq_left hn,List.drop_drop] at h
 exact h
theorem run_past (l:List UInt8) (k:Nat) (h:k+runB [32,9] (l.drop k)<l.length):spB (bt l (k+runB [32,9] (l.drop k)))=false:=by
 cases hs:spB (bt l (k+runB [32,9] (l.drop k))) with
 | false=>rfl
 | true =>
   exfalso
   have hb:=bt_bd l (k+runB [32,9] (l.drop k))
   rw[<-among_blanks hb.1 hb.2] at hs
   have hlen:runB [32,9] (l.drop k)<(l.drop k).length:=by rw[List.length_drop];omega
   have hg:∀ m,m=runB [32,9] (l.drop k)->amongB [32,9] (bt (l.drop k) m)=true->False:=by
    intro m hm ha
    unfold runB at hm
    have hlt:m<(l.drop k).length:=by rw[hm];exact hlen
    have h1:bt (l.drop k) m=((l.drop k)[m].toNat:Int):=by unfold bt;rw[List.getD_eq_getElem?_getD,List.getElem?_eq_getElem hlt];rfl
    rw[h1] at ha
    have h2:(l.drop k).takeWhile (fun c=>amongB [32,9] c.toNat)=(l.drop k).take m:=by
     have hp:=List.takeWhile_prefix (fun c:UInt8=>amongB [32,9] c.toNat) (l:=l.drop k)
     rw[hm]
     exact (List.prefix_iff_eq_take.1 hp)
    have h3:l.drop k=(l.drop k).take m++(l.drop k)[m]::(l.drop k).drop (m+1):=by
     rw[<-List.drop_eq_getElem_cons hlt,List.take_append_drop]
    have h4:((l.drop k).takeWhile (fun c=>amongB [32,9] c.toNat)).length ≥ m+1:=by
     rw[h3,List.takeWhile_append_of_pos (by
      intro a ha'
      rw[<-h2] at ha'
      exact List.all_eq_true.1 (List.all_takeWhile (p:=fun c:UInt8=>amongB [32,9] c.toNat) (l:=l.drop k)) a ha'),List.takeWhile_cons,if_pos ha]
     rw[List.length_append,List.length_take,List.length_cons]
     omega
    omega
   refine hg _ rfl ?_
   rw[bt_drop]
   exact hs
end Go.Proofs.YtamjadghncnbcaaGreatDoor
