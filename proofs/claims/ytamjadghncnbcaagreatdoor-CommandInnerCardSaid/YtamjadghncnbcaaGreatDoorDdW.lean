/- strconv.Itoa laid for this seat (a record turned from the laid shelf). command.Text at next, walked. Blank, the code's and the document's, walked. osierlaw25.awake, walked. -/
import Derived.Test.YtamjadghncnbcaaGreatDoorShelf
import Derived.Test.YtamjadghncnbcaaGreatDoorDaW
import Derived.Test.YtamjadghncnbcaaGreatDoorLxW
import Derived.Test.YtamjadghncnbcaaGreatDoorDoW
import Derived.Test.YtamjadghncnbcaaGreatDoorDcW
import Derived.Shelf.Strconv.Itoa4
import Derived.Lib.AppendIntMem
import Derived.Lib.ItoaLen
import Derived.Deep.RegionHeld3
import Derived.BigQuiet
import Derived.KernelRfl
namespace Go.Proofs
open Go.Shelf
def Tryz.laysM171_ren:Go.Shelf.Ren:=⟨fun | 171=>65 | 243=>128 | 246=>183 | 283=>215 | 284=>216 | 285=>217 | 286=>218 | 129=>207 | 317=>240 | 318=>241 | 319=>242 | 320=>243 | 337=>255 | 338=>256 | n=>n,fun | 2=>2 | 3=>3 | 9=>9 | 4=>4 | 171=>263 | 0=>0 | 53=>200 | 37=>222 | 5=>5 | 173=>265 | 212=>289 | 51=>257 | 20=>20 | 213=>290 | 46=>214 | 232=>303 | 233=>304 | n=>n,fun | 17=>1 | 18=>3 | 19=>4 | n=>n⟩
theorem Tryz.laysM171:Go.Proofs.LaysM.n171 Tryz.prog Tryz.laysM171_ren := {
 mixed:=by kernel_rfl
 f129:=Tryz.func207.trans (congrArg some (by kernel_rfl))
 f171:=Tryz.func65.trans (congrArg some (by kernel_rfl))
 f243:=Tryz.func128.trans (congrArg some (by kernel_rfl))
 f246:=Tryz.func183.trans (congrArg some (by kernel_rfl))
 f283:=Tryz.func215.trans (congrArg some (by kernel_rfl))
 f284:=Tryz.func216.trans (congrArg some (by kernel_rfl))
 f285:=Tryz.func217.trans (congrArg some (by kernel_rfl))
 f286:=Tryz.func218.trans (congrArg some (by kernel_rfl))
 f317:=Tryz.func240.trans (congrArg some (by kernel_rfl))
 f318:=Tryz.func241.trans (congrArg some (by kernel_rfl))
 f319:=Tryz.func242.trans (congrArg some (by kernel_rfl))
 f320:=Tryz.func243.trans (congrArg some (by kernel_rfl))
 f337:=Tryz.func255.trans (congrArg some (by kernel_rfl))
 f338:=Tryz.func256.trans (congrArg some (by kernel_rfl))
 t0:=Tryz.underlying0
 a0:=Tryz.isAgg0
 z0:=Tryz.sizeOf0
 v0:=Tryz.zeroValue0
 t2:=Tryz.underlying2
 a2:=Tryz.isAgg2
 z2:=Tryz.sizeOf2
 v2:=Tryz.zeroValue2
 t3:=Tryz.underlying3
 a3:=Tryz.isAgg3
 z3:=Tryz.sizeOf3
 v3:=Tryz.zeroValue3
 t4:=Tryz.underlying4
 a4:=Tryz.isAgg4
 z4:=Tryz.sizeOf4
 v4:=Tryz.zeroValue4
 t5:=Tryz.underlying5
 a5:=Tryz.isAgg5
 z5:=Tryz.sizeOf5
 v5:=Tryz.zeroValue5
 t9:=Tryz.underlying9
 a9:=Tryz.isAgg9
 z9:=Tryz.sizeOf9
 v9:=Tryz.zeroValue9
 t20:=Tryz.underlying20
 a20:=Tryz.isAgg20
 z20:=Tryz.sizeOf20
 v20:=Tryz.zeroValue20
 t37:=Tryz.underlying222
 a37:=Tryz.isAgg222
 z37:=Tryz.sizeOf222
 v37:=Tryz.zeroValue222
 t46:=Tryz.underlying214
 a46:=Tryz.isAgg214
 z46:=Tryz.sizeOf214
 v46:=Tryz.zeroValue214
 t51:=Tryz.underlying257
 a51:=Tryz.isAgg257
 z51:=Tryz.sizeOf257
 v51:=Tryz.zeroValue257
 t53:=Tryz.underlying200
 a53:=Tryz.isAgg200
 z53:=Tryz.sizeOf200
 v53:=Tryz.zeroValue200
 t171:=Tryz.underlying263
 a171:=Tryz.isAgg263
 z171:=Tryz.sizeOf263
 v171:=Tryz.zeroValue263
 t173:=Tryz.underlying265
 a173:=Tryz.isAgg265
 z173:=Tryz.sizeOf265
 v173:=Tryz.zeroValue265
 t212:=Tryz.underlying289
 a212:=Tryz.isAgg289
 z212:=Tryz.sizeOf289
 v212:=Tryz.zeroValue289
 t213:=Tryz.underlying290
 a213:=Tryz.isAgg290
 z213:=Tryz.sizeOf290
 t232:=Tryz.underlying303
 a232:=Tryz.isAgg303
 z232:=Tryz.sizeOf303
 v232:=Tryz.zeroValue303
 t233:=Tryz.underlying304
 a233:=Tryz.isAgg304
 z233:=Tryz.sizeOf304
 v233:=Tryz.zeroValue304
 g17:=by kernel_rfl
 g18:=by kernel_rfl
 g19:=by kernel_rfl
 i0:=by kernel_rfl
 i2:=by kernel_rfl
 i3:=by kernel_rfl
 i4:=by kernel_rfl
 i5:=by kernel_rfl
 i9:=by kernel_rfl
 i20:=by kernel_rfl
 i37:=by kernel_rfl
 i46:=by kernel_rfl
 i51:=by kernel_rfl
 i53:=by kernel_rfl
 i171:=by kernel_rfl
 i173:=by kernel_rfl
 i212:=by kernel_rfl
 i232:=by kernel_rfl
 i233:=by kernel_rfl
 m17:=by kernel_rfl
 m18:=by kernel_rfl
 m19:=by kernel_rfl }
open Go.RowKit Go.Sort Go.Lib in
theorem Tryz.strconv_Itoa (n:Int) (h0 : -9223372036854775808<=n) (h1:n<=9223372036854775807) (w:World) (htab:Lib.TabIs Tryz.prog w "internal/strconv.uint64pow10" .u64 Lib.pow10Tab) :
 Calls Tryz.prog 65 #[.int .i64 n] w fun e w'=>e=.returned (.string ⟨(Lib.itoa n).toArray⟩)/\∃ k os,w'=grow (w.drewN k) os:=Any.strconv_Itoa Tryz.laysM171 n h0 h1 w htab
end Go.Proofs
namespace Go.Proofs.YtamjadghncnbcaaGreatDoor
open Go.RowKit
theorem itoa_any (n:Int) (h0 : -9223372036854775808<=n) (h1:n<=9223372036854775807) (w:World) (htab:Lib.TabIs Tryz.prog w "internal/strconv.uint64pow10" .u64 Lib.pow10Tab) :
 Calls Tryz.prog 65 #[.int .i64 n] w fun e w'=>e=.returned (.string ⟨(Lib.itoa n).toArray⟩)/\Below w.heap.size w w':=by
 refine (Tryz.strconv_Itoa n h0 h1 w htab).mono ?_
 rintro e w' ⟨rfl,k,os,rfl⟩
 exact⟨rfl,Lib.below_grow _ _ (Nat.le_refl _) _ _⟩
end Go.Proofs.YtamjadghncnbcaaGreatDoor
namespace Go.Proofs.YtamjadghncnbcaaGreatDoor
open Go.RowKit
set_option linter.unusedVariables false
def cellsC (k:Int) (rn:ByteArray) (cv:Value) (qn:ByteArray) (hv av bv:Value) (nm:ByteArray) (id n:Int) (rv:Value):Array Value :=
 #[.int .i64 k,.string rn,cv,.string qn,hv,av,bv,.string nm,.int .i64 id,.int .i64 n,rv]
set_option maxHeartbeats 4000000 in
set_option maxRecDepth 100000 in
theorem txt_7 (w:World) (rn qn nm:ByteArray) (o1 o2 o3 o4 o5:Option Addr) (l1 c1 l2 c2 l3 c3 l4 c4 l5 c5:Nat) (id n:Int) (hg:GlobW w) (h1 : -9223372036854775808<=id) (h2:id<=9223372036854775807) (h3 : -9223372036854775808<=n) (h4:n<=9223372036854775807) :
 Calls Tryz.prog 19 #[.agg (cellsC 7 rn (.slice o1 l1 c1) qn (.slice o2 l2 c2) (.slice o3 l3 c3) (.slice o4 l4 c4) nm id n (.slice o5 l5 c5))] w fun e w'=>e=.returned (.string ⟨([110,101,120,116]++32::(Lib.itoa id++32::Lib.itoa n)).toArray⟩)/\Below w.heap.size w w':=by
 unfold cellsC
 have hb0:Below w.heap.size w (w.alloc (.cells #[.int .i64 7,.string rn,.slice o1 l1 c1,.string qn,.slice o2 l2 c2,.slice o3 l3 c3,.slice o4 l4 c4,.string nm,.int .i64 id,.int .i64 n,.slice o5 l5 c5] 34)):=balloc (Below.refl _ _) _
 have hbx:=Blk.new w 34 #[.int .i64 7,.string rn,.slice o1 l1 c1,.string qn,.slice o2 l2 c2,.slice o3 l3 c3,.slice o4 l4 c4,.string nm,.int .i64 id,.int .i64 n,.slice o5 l5 c5]
 have hg0:=hg.below hb0
 obtain⟨W0,hW0⟩:∃ W0,w.alloc (.cells #[.int .i64 7,.string rn,.slice o1 l1 c1,.string qn,.slice o2 l2 c2,.slice o3 l3 c3,.slice o4 l4 c4,.string nm,.int .i64 id,.int .i64 n,.slice o5 l5 c5] 34)=W0:=⟨_,rfl⟩
 rw[hW0] at hb0 hbx hg0
 have k7:=hg0.v.cell 7
 have kl:=hg0.v.lt
 simp only[wordsA,List.getElem?_toArray,List.getElem?_cons_zero,List.getElem?_cons_succ] at k7
 have x0:=hbx.cell 0
 have x8:=hbx.cell 8
 have x9:=hbx.cell 9
 have xl:=hbx.lt
 simp only[List.getElem?_toArray,List.getElem?_cons_zero,List.getElem?_cons_succ] at x0 x8 x9
 have hst:∀ W W',W.cell? ⟨w.heap.size,8,none⟩=some (.int .i64 id)/\W.cell? ⟨w.heap.size,9,none⟩=some (.int .i64 n)/\Below W0.heap.size W0 W->Below W.heap.size W W'->W'.cell? ⟨w.heap.size,8,none⟩=some (.int .i64 id)/\W'.cell? ⟨w.heap.size,9,none⟩=some (.int .i64 n)/\Below W0.heap.size W0 W':=by
  rintro W W' ⟨q1,q2,q3⟩ hb
  have:=q3.size
  exact⟨(hb.cell (p:=⟨w.heap.size,8,none⟩) (by simp only;omega)).trans q1,(hb.cell (p:=⟨w.heap.size,9,none⟩) (by simp only;omega)).trans q2,q3.trans (hb.mono this)⟩
 have hi:∀ W,W.cell? ⟨w.heap.size,8,none⟩=some (.int .i64 id)/\W.cell? ⟨w.heap.size,9,none⟩=some (.int .i64 n)/\Below W0.heap.size W0 W->Calls Tryz.prog 65 #[.int .i64 id] W fun e w'=>e=.returned (.string ⟨(Lib.itoa id).toArray⟩)/\(w'.cell? ⟨w.heap.size,8,none⟩=some (.int .i64 id)/\w'.cell? ⟨w.heap.size,9,none⟩=some (.int .i64 n)/\Below W0.heap.size W0 w'):=fun W hW=>(itoa_any id h1 h2 W (hg0.below hW.2.2).g.tab).mono fun e w' h=>⟨h.1,hst _ _ hW h.2⟩
 have hn:∀ W,W.cell? ⟨w.heap.size,8,none⟩=some (.int .i64 id)/\W.cell? ⟨w.heap.size,9,none⟩=some (.int .i64 n)/\Below W0.heap.size W0 W->Calls Tryz.prog 65 #[.int .i64 n] W fun e w'=>e=.returned (.string ⟨(Lib.itoa n).toArray⟩)/\(w'.cell? ⟨w.heap.size,8,none⟩=some (.int .i64 id)/\w'.cell? ⟨w.heap.size,9,none⟩=some (.int .i64 n)/\Below W0.heap.size W0 w'):=fun W hW=>(itoa_any n h3 h4 W (hg0.below hW.2.2).g.tab).mono fun e w' h=>⟨h.1,hst _ _ hW h.2⟩
 have e1:=Lib.itoa_length_le id h1 h2
 have e2:=Lib.itoa_length_le n h3 h4
 have HI:=Lib.hid hi
 have HN:=Lib.hid hn
 have HB0:=Lib.hid hb0
 have HW0:=Lib.hid hW0
 clear hg hb0 hg0 h1 h2 h3 h4 hst hi hn hW0 hbx
 have hpost:∀ A B:ByteArray,A.data.toList=Lib.itoa id->B.data.toList=Lib.itoa n->∀ R:ByteArray,R.data.toList=[110,101,120,116]++32::(A.data.toList++32::B.data.toList)->R=⟨([110,101,120,116]++32::(Lib.itoa id++32::Lib.itoa n)).toArray⟩:=by
  intro A B hA hB R hR
  rw[hA,hB] at hR
  exact ByteArray.ext (Array.toList_inj.1 (by rw[hR]))
 have HPO:=Lib.hid hpost
 clear hpost
 generalize hA:(⟨(Lib.itoa id).toArray⟩:ByteArray)=A at *
 generalize hB:(⟨(Lib.itoa n).toArray⟩:ByteArray)=B at *
 have a1:A.size<=21:=by rw[<-hA];simpa [ByteArray.size] using e1
 have a2:B.size<=21:=by rw[<-hB];simpa [ByteArray.size] using e2
 have v1:¬ 9223372036854775807<A.size+1:=by omega
 have v2:¬ 9223372036854775807<A.size+1+B.size:=by omega
 have HA:=Lib.hid hA
 have HB:=Lib.hid hB
 clear hA hB e1 e2
 go_enter Tryz.func19,Tryz.ntmps19
 go_upto_region 1 with fail
 rw[HW0.out]
 go_wp2_with fail
 go_region_held3 (fun w'=>w'.cell? ⟨w.heap.size,8,none⟩=some (.int .i64 id)/\w'.cell? ⟨w.heap.size,9,none⟩=some (.int .i64 n)/\Below W0.heap.size W0 w')
  (first | exact hK | (go_split_ands;refine⟨?_,?_,?_⟩<;>first | exact bdrew (by assumption) | exact bdrew (Below.refl _ _) | assumption | go_keep))
  (first
    | (go_at_call 65;go_split_ands;refine (HI.out _ ⟨by assumption,by assumption,by assumption⟩).mono ?_;rintro e w' ⟨rfl,hK⟩)
    | (go_at_call 65;go_split_ands;refine (HN.out _ ⟨by assumption,by assumption,by assumption⟩).mono ?_;rintro e w' ⟨rfl,hK⟩))
 all_goals go_split_ands
 all_goals (
  have r1:(A++(⟨#[32]⟩:ByteArray)++B).size<=43:=by rw[ByteArray.size_append,ByteArray.size_append,show (⟨#[32]⟩:ByteArray).size=1 from rfl];omega
  have r2:(A++(⟨#[32]⟩:ByteArray)++B).data.toList=A.data.toList++32::B.data.toList:=by simp
  generalize A++(⟨#[32]⟩:ByteArray)++B=RR at *
  have r3:(RR.toList == [])=false:=by rw[ByteArray.toList_eq,r2];simp
  have R2:=Lib.hid r2
  clear r2 v1 v2
  go_wp2_with fail)
 all_goals (
  go_ret
  refine⟨congrArg (fun x=>Ending.returned (.string x)) (HPO.out A B (by rw[<-HA.out]) (by rw[<-HB.out]) _ ?_),HB0.out.trans (Below.mono (by assumption) HB0.out.size)⟩
  rw[<-R2.out]
  simp)
end Go.Proofs.YtamjadghncnbcaaGreatDoor
namespace Go.Proofs.YtamjadghncnbcaaGreatDoor
open Go.RowKit
set_option linter.unusedVariables false
def blankB (l:List UInt8):Bool:=decide ((lexR l).e=0/\(lexR l).ts.length=1)
theorem len_one (n:Nat):((n:Int) == 1)=decide (n=1):=by
 by_cases h:n=1
 ·simp [h]
 ·have h2:¬ ((n:Int)=1):=by omega
  simp [h,h2]
set_option maxHeartbeats 2000000 in
set_option maxRecDepth 100000 in
theorem blank_any (s:ByteArray) (w:World) (hs:s.size<=281474976710656) (hg:Glob w) :
 Calls Tryz.prog 21 #[.string s] w fun e w'=>e=.returned (.bool (blankB s.data.toList))/\Below w.heap.size w w':=by
 have ht:=tokens_any s w hs hg
 unfold blankB
 generalize lexR s.data.toList=R at *
 obtain⟨ts,p,e0⟩:=R
 unfold TokPost at ht
 simp only at ht ⊢
 have HT:=Lib.hid ht
 clear ht hg
 by_cases he:e0=0
 ·subst he
  go_enter Tryz.func21,Tryz.ntmps21
  go_wp2_with fail
  refine HT.out.mono ?_
  rintro e w1 ⟨ad,cap,rfl,_,hb⟩
  have HB:=Lib.hid hb
  clear hb HT
  go_wp2_with fail
  go_ret
  exact⟨by simp [len_one],HB.out⟩
 ·have q0:(e0 == 0)=false:=by simpa using he
  have q1:decide (e0=0/\ts.length=1)=false:=by simp [he]
  rw[q1]
  clear he q1
  go_enter Tryz.func21,Tryz.ntmps21
  go_wp2_with fail
  refine HT.out.mono ?_
  rintro e w1 ⟨ad,cap,rfl,_,hb⟩
  have HB:=Lib.hid hb
  clear hb HT
  go_wp2_with fail
  go_ret
  exact⟨by first | rfl | simp,HB.out⟩
end Go.Proofs.YtamjadghncnbcaaGreatDoor
namespace Go.Proofs.YtamjadghncnbcaaGreatDoor
open Go.RowKit
set_option linter.unusedVariables false
def bsA25:ByteArray:=⟨#[110,101,120,116,32,51,32,49,48]⟩
theorem a25_q:cmdT bsA25.data.toList=.ok { cmd0 with kind:=7,id:=3,n:=10 } [endTok 9]:=by kernel_rfl
theorem a25_t:(⟨([110,101,120,116]++32::(Lib.itoa 3++32::Lib.itoa 10)).toArray⟩:ByteArray)=⟨#[110,101,120,116,32,51,32,49,48]⟩:=by kernel_rfl
theorem a25_b:blankB (⟨#[32]⟩:ByteArray).data.toList=true:=by kernel_rfl
theorem CmdOwn.form {B:Nat} {w:World} {cells:Array Value} {c:Cmd} (h:CmdOwn B w cells c):∃ (o1 o2 o3 o4 o5:Option Addr) (d1 d2 d3 d4 d5:Nat),cells=#[.int .i64 c.kind,.string ⟨c.rel.name.toArray⟩,.slice o1 c.rel.cols.length d1,.string ⟨c.q.name.toArray⟩,.slice o2 c.q.head.length d2,.slice o3 c.q.atoms.length d3,.slice o4 c.b.length d4,.string ⟨c.nm.toArray⟩,.int .i64 c.id,.int .i64 c.n,.slice o5 c.row.length d5]:=by
 obtain⟨cv,hv,av,bv,rv,rfl,h1,h2,h3,h4,h5⟩:=h
 obtain⟨o1,d1,rfl⟩:=own_sl h1
 obtain⟨o2,d2,rfl⟩:=own_sl h2
 obtain⟨o3,d3,rfl⟩:=atoms_sl h3
 obtain⟨_,h6,_⟩:=h4
 obtain⟨o4,d4,rfl⟩:=own_sl h6
 obtain⟨o5,d5,rfl⟩:=own_sl h5
 exact⟨o1,o2,o3,o4,o5,d1,d2,d3,d4,d5,rfl⟩
set_option maxHeartbeats 4000000 in
set_option maxRecDepth 100000 in
theorem awake25 (w:World) (hg:GlobW w):Calls Tryz.prog 15 #[] w fun e w'=>e=.returned (.bool true)/\Below w.heap.size w w':=by
 have hp:=cmd_any bsA25 w (by decide) hg
 rw[a25_q] at hp
 have HP:=Lib.hid hp
 have HT:=Lib.hid (fun W (hW:Below w.heap.size w W) o1 o2 o3 o4 o5 l1 c1 l2 c2 l3 c3 l4 c4 l5 c5=>txt_7 W ⟨#[]⟩ ⟨#[]⟩ ⟨#[]⟩ o1 o2 o3 o4 o5 l1 c1 l2 c2 l3 c3 l4 c4 l5 c5 3 10 (hg.below hW) (by decide) (by decide) (by decide) (by decide))
 rw[a25_t] at HT
 unfold cellsC at HT
 have HBL:=Lib.hid (fun W (hW:Below w.heap.size w W)=>blank_any ⟨#[32]⟩ W (by decide) (hg.below hW).g)
 rw[a25_b] at HBL
 clear hp hg
 unfold bsA25 at HP
 go_enter Tryz.func15,Tryz.ntmps15
 go_wp2_with fail
 refine HP.out.mono ?_
 rintro e w1 ⟨cells,rfl,hown,hb⟩
 obtain⟨o1,o2,o3,o4,o5,d1,d2,d3,d4,d5,rfl⟩:=hown.form
 clear hown
 simp only[cmd0,List.length_nil]
 have hb1:=balloc hb (.cells #[.int .i64 7,.string ⟨#[]⟩,.slice o1 0 d1,.string ⟨#[]⟩,.slice o2 0 d2,.slice o3 0 d3,.slice o4 0 d4,.string ⟨#[]⟩,.int .i64 3,.int .i64 10,.slice o5 0 d5] 34)
 have HTX:=Lib.hid (HT.out _ hb1 o1 o2 o3 o4 o5 0 d1 0 d2 0 d3 0 d4 0 d5)
 have HB1:=Lib.hid hb1
 clear hb hb1 HT HP
 go_wp2_with fail
 refine HTX.out.mono ?_
 rintro e w2 ⟨rfl,hb2⟩
 have hb3:=HB1.out.trans (hb2.mono HB1.out.size)
 have HB3:=Lib.hid hb3
 have HB4:=Lib.hid (HBL.out _ hb3)
 clear hb2 hb3 HTX HBL HB1
 go_wp2_with fail
 refine HB4.out.mono ?_
 rintro e w3 ⟨rfl,hb4⟩
 have HB5:=Lib.hid (HB3.out.trans (hb4.mono HB3.out.size))
 clear hb4
 go_wp2_with fail
 go_ret
 exact⟨by first | rfl | simp,HB5.out⟩
end Go.Proofs.YtamjadghncnbcaaGreatDoor
