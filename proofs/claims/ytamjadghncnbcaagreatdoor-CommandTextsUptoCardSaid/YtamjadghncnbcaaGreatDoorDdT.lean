/- strconv.Itoa laid for this seat (a record turned from the laid shelf). Blank, the code's and the document's, walked. -/
import Derived.Test.YtamjadghncnbcaaGreatDoorShelf
import Derived.Test.YtamjadghncnbcaaGreatDoorDaT
import Derived.Test.YtamjadghncnbcaaGreatDoorLxT
import Derived.Test.YtamjadghncnbcaaGreatDoorDoT
import Derived.Shelf.Strconv.Itoa4
import Derived.Lib.AppendIntMem
namespace Go.Proofs
open Go.Shelf
def Tryz.laysM171_ren:Go.Shelf.Ren:=⟨fun | 171=>65 | 243=>128 | 246=>183 | 283=>215 | 284=>216 | 285=>217 | 286=>218 | 129=>207 | 317=>240 | 318=>241 | 319=>242 | 320=>243 | 337=>255 | 338=>256 | n=>n,fun | 2=>2 | 3=>3 | 9=>9 | 4=>4 | 171=>263 | 0=>0 | 53=>200 | 37=>222 | 5=>5 | 173=>265 | 212=>289 | 51=>257 | 20=>20 | 213=>290 | 46=>214 | 232=>303 | 233=>304 | n=>n,fun | 17=>1 | 18=>3 | 19=>4 | n=>n⟩
theorem Tryz.laysM171:Go.Proofs.LaysM.n171 Tryz.prog Tryz.laysM171_ren := {
 mixed:=by kernel_rfl
 f129:=Tryz.func207.trans (congrArg some (by kernel_rfl))
 f171:=Tryz.func65.trans (congrArg some (by kernel_rfl))
 f243:=Tryz.func128.trans (congrArg some (by kernel_rfl))
 f246:=Tryz.func183.trans (congrArg some (by kernel_rfl))
 f283:=Tryz.func215.trans (congrArg some (by kernel_rfl))
 f284:=Tryz.func216.trans (congrArg some (by kernel_rfl))
 f285:=Tryz.func217.trans (congrArg some (by kernel_rfl))
 f286:=Tryz.func218.trans (congrArg some (by kernel_rfl))
 f317:=Tryz.func240.trans (congrArg some (by kernel_rfl))
 f318:=Tryz.func241.trans (congrArg some (by kernel_rfl))
 f319:=Tryz.func242.trans (congrArg some (by kernel_rfl))
 f320:=Tryz.func243.trans (congrArg some (by kernel_rfl))
 f337:=Tryz.func255.trans (congrArg some (by kernel_rfl))
 f338:=Tryz.func256.trans (congrArg some (by kernel_rfl))
 t0:=Tryz.underlying0
 a0:=Tryz.isAgg0
 z0:=Tryz.sizeOf0
 v0:=Tryz.zeroValue0
 t2:=Tryz.underlying2
 a2:=Tryz.isAgg2
 z2:=Tryz.sizeOf2
 v2:=Tryz.zeroValue2
 t3:=Tryz.underlying3
 a3:=Tryz.isAgg3
 z3:=Tryz.sizeOf3
 v3:=Tryz.zeroValue3
 t4:=Tryz.underlying4
 a4:=Tryz.isAgg4
 z4:=Tryz.sizeOf4
 v4:=Tryz.zeroValue4
 t5:=Tryz.underlying5
 a5:=Tryz.isAgg5
 z5:=Tryz.sizeOf5
 v5:=Tryz.zeroValue5
 t9:=Tryz.underlying9
 a9:=Tryz.isAgg9
 z9:=Tryz.sizeOf9
 v9:=Tryz.zeroValue9
 t20:=Tryz.underlying20
 a20:=Tryz.isAgg20
 z20:=Tryz.sizeOf20
 v20:=Tryz.zeroValue20
 t37:=Tryz.underlying222
 a37:=Tryz.isAgg222
 z37:=Tryz.sizeOf222
 v37:=Tryz.zeroValue222
 t46:=Tryz.underlying214
 a46:=Tryz.isAgg214
 z46:=Tryz.sizeOf214
 v46:=Tryz.zeroValue214
 t51:=Tryz.underlying257
 a51:=Tryz.isAgg257
 z51:=Tryz.sizeOf257
 v51:=Tryz.zeroValue257
 t53:=Tryz.underlying200
 a53:=Tryz.isAgg200
 z53:=Tryz.sizeOf200
 v53:=Tryz.zeroValue200
 t171:=Tryz.underlying263
 a171:=Tryz.isAgg263
 z171:=Tryz.sizeOf263
 v171:=Tryz.zeroValue263
 t173:=Tryz.underlying265
 a173:=Tryz.isAgg265
 z173:=Tryz.sizeOf265
 v173:=Tryz.zeroValue265
 t212:=Tryz.underlying289
 a212:=Tryz.isAgg289
 z212:=Tryz.sizeOf289
 v212:=Tryz.zeroValue289
 t213:=Tryz.underlying290
 a213:=Tryz.isAgg290
 z213:=Tryz.sizeOf290
 t232:=Tryz.underlying303
 a232:=Tryz.isAgg303
 z232:=Tryz.sizeOf303
 v232:=Tryz.zeroValue303
 t233:=Tryz.underlying304
 a233:=Tryz.isAgg304
 z233:=Tryz.sizeOf304
 v233:=Tryz.zeroValue304
 g17:=by kernel_rfl
 g18:=by kernel_rfl
 g19:=by kernel_rfl
 i0:=by kernel_rfl
 i2:=by kernel_rfl
 i3:=by kernel_rfl
 i4:=by kernel_rfl
 i5:=by kernel_rfl
 i9:=by kernel_rfl
 i20:=by kernel_rfl
 i37:=by kernel_rfl
 i46:=by kernel_rfl
 i51:=by kernel_rfl
 i53:=by kernel_rfl
 i171:=by kernel_rfl
 i173:=by kernel_rfl
 i212:=by kernel_rfl
 i232:=by kernel_rfl
 i233:=by kernel_rfl
 m17:=by kernel_rfl
 m18:=by kernel_rfl
 m19:=by kernel_rfl }
open Go.RowKit Go.Sort Go.Lib in
theorem Tryz.strconv_Itoa (n:Int) (h0 : -9223372036854775808<=n) (h1:n<=9223372036854775807) (w:World) (htab:Lib.TabIs Tryz.prog w "internal/strconv.uint64pow10" .u64 Lib.pow10Tab) :
 Calls Tryz.prog 65 #[.int .i64 n] w fun e w'=>e=.returned (.string ⟨(Lib.itoa n).toArray⟩)/\∃ k os,w'=grow (w.drewN k) os:=Any.strconv_Itoa Tryz.laysM171 n h0 h1 w htab
end Go.Proofs
namespace Go.Proofs.YtamjadghncnbcaaGreatDoor
open Go.RowKit
theorem itoa_any (n:Int) (h0 : -9223372036854775808<=n) (h1:n<=9223372036854775807) (w:World) (htab:Lib.TabIs Tryz.prog w "internal/strconv.uint64pow10" .u64 Lib.pow10Tab) :
 Calls Tryz.prog 65 #[.int .i64 n] w fun e w'=>e=.returned (.string ⟨(Lib.itoa n).toArray⟩)/\Below w.heap.size w w':=by
 refine (Tryz.strconv_Itoa n h0 h1 w htab).mono ?_
 rintro e w' ⟨rfl,k,os,rfl⟩
 exact⟨rfl,Lib.below_grow _ _ (Nat.le_refl _) _ _⟩
end Go.Proofs.YtamjadghncnbcaaGreatDoor
namespace Go.Proofs.YtamjadghncnbcaaGreatDoor
open Go.RowKit
set_option linter.unusedVariables false
def blankB (l:List UInt8):Bool:=decide ((lexR l).e=0/\(lexR l).ts.length=1)
theorem len_one (n:Nat):((n:Int) == 1)=decide (n=1):=by
 by_cases h:n=1
 ·simp [h]
 ·have h2:¬ ((n:Int)=1):=by omega
  simp [h,h2]
set_option maxHeartbeats 2000000 in
set_option maxRecDepth 100000 in
theorem blank_any (s:ByteArray) (w:World) (hs:s.size<=281474976710656) (hg:Glob w) :
 Calls Tryz.prog 21 #[.string s] w fun e w'=>e=.returned (.bool (blankB s.data.toList))/\Below w.heap.size w w':=by
 have ht:=tokens_any s w hs hg
 unfold blankB
 generalize lexR s.data.toList=R at *
 obtain⟨ts,p,e0⟩:=R
 unfold TokPost at ht
 simp only at ht ⊢
 have HT:=Lib.hid ht
 clear ht hg
 by_cases he:e0=0
 ·subst he
  go_enter Tryz.func21,Tryz.ntmps21
  go_wp2_with fail
  refine HT.out.mono ?_
  rintro e w1 ⟨ad,cap,rfl,_,hb⟩
  have HB:=Lib.hid hb
  clear hb HT
  go_wp2_with fail
  go_ret
  exact⟨by simp [len_one],HB.out⟩
 ·have q0:(e0 == 0)=false:=by simpa using he
  have q1:decide (e0=0/\ts.length=1)=false:=by simp [he]
  rw[q1]
  clear he q1
  go_enter Tryz.func21,Tryz.ntmps21
  go_wp2_with fail
  refine HT.out.mono ?_
  rintro e w1 ⟨ad,cap,rfl,_,hb⟩
  have HB:=Lib.hid hb
  clear hb HT
  go_wp2_with fail
  go_ret
  exact⟨by first | rfl | simp,HB.out⟩
end Go.Proofs.YtamjadghncnbcaaGreatDoor
