/- Blank, the code's and the document's, walked. strconv.Itoa laid for this seat (a record turned from the laid shelf). A command's text, part by part; plainly. command.Text at any command, walked (printed by mkctx.py). -/
import Derived.Test.YtgopfpjinohncaaGreatDoorDaV
import Derived.Test.YtgopfpjinohncaaGreatDoorLxV
import Derived.Test.YtgopfpjinohncaaGreatDoorLfV
import Derived.Test.YtgopfpjinohncaaGreatDoorLbV
import Derived.Test.YtgopfpjinohncaaGreatDoorLaV
import Derived.Test.YtgopfpjinohncaaGreatDoorShelfZV
import Derived.Test.YtgopfpjinohncaaGreatDoorKfV
import Derived.Test.YtgopfpjinohncaaGreatDoorDwV
import Derived.Test.YtgopfpjinohncaaGreatDoorQvV
import Derived.Test.YtgopfpjinohncaaGreatDoorRxV
import Derived.Deep.RegionLaw
import Derived.Deep.Cut
import Derived.Deep.CutRange
import Derived.Deep.DeepCutAuto
import Derived.Lib.ConvBytes
import Derived.Lib.ItoaLen
import Derived.Deep.RegionHeld3
import Derived.Deep.MidRow
import Derived.Shelf.Strconv.Itoa4
import Derived.Lib.AppendIntMem
import Derived.BigQuiet
namespace Go.Proofs.YtgopfpjinohncaaGreatDoor
open Go.RowKit
set_option linter.unusedVariables false
def blankB (l:List UInt8):Bool:=decide ((lexR l).e=0/\(lexR l).ts.length=1)
theorem len_one (n:Nat):((n:Int) == 1)=decide (n=1):=by
 by_cases h:n=1
 ·simp [h]
 ·have h2:¬ ((n:Int)=1):=by omega
  simp [h,h2]
set_option maxHeartbeats 2000000 in
set_option maxRecDepth 100000 in
theorem blank_any (s:ByteArray) (w:World) (hs:s.size<=281474976710656) (hg:Glob w) :
 Calls Tryz.prog 41 #[.string s] w fun e w'=>e=.returned (.bool (blankB s.data.toList))/\Below w.heap.size w w':=by
 have ht:=tokens_any s w hs hg
 unfold blankB
 generalize lexR s.data.toList=R at *
 obtain⟨ts,p,e0⟩:=R
 unfold TokPost at ht
 simp only at ht ⊢
 have HT:=Lib.hid ht
 clear ht hg
 by_cases he:e0=0
 ·subst he
  go_enter Tryz.func41,Tryz.ntmps41
  go_wp2_with fail
  refine HT.out.mono ?_
  rintro e w1 ⟨ad,cap,rfl,_,hb⟩
  have HB:=Lib.hid hb
  clear hb HT
  go_wp2_with fail
  go_ret
  exact⟨by simp [len_one],HB.out⟩
 ·have q0:(e0 == 0)=false:=by simpa using he
  have q1:decide (e0=0/\ts.length=1)=false:=by simp [he]
  rw[q1]
  clear he q1
  go_enter Tryz.func41,Tryz.ntmps41
  go_wp2_with fail
  refine HT.out.mono ?_
  rintro e w1 ⟨ad,cap,rfl,_,hb⟩
  have HB:=Lib.hid hb
  clear hb HT
  go_wp2_with fail
  go_ret
  exact⟨by first | rfl | simp,HB.out⟩
end Go.Proofs.YtgopfpjinohncaaGreatDoor
namespace Go.Proofs
open Go.Shelf
def Tryz.laysM171_ren:Go.Shelf.Ren:=⟨fun | 171=>72 | 243=>154 | 246=>209 | 283=>253 | 284=>254 | 285=>255 | 286=>256 | 129=>227 | 317=>285 | 318=>286 | 319=>287 | 320=>288 | 337=>312 | 338=>313 | n=>n,fun | 2=>2 | 3=>3 | 9=>9 | 4=>4 | 171=>338 | 0=>0 | 53=>293 | 37=>154 | 5=>5 | 173=>340 | 212=>387 | 51=>309 | 20=>20 | 213=>388 | 46=>262 | 232=>439 | 233=>440 | n=>n,fun | 17=>1 | 18=>3 | 19=>4 | n=>n⟩
theorem Tryz.laysM171:Go.Proofs.LaysM.n171 Tryz.prog Tryz.laysM171_ren := {
 mixed:=by kernel_rfl
 f129:=Tryz.func227.trans (congrArg some (by kernel_rfl))
 f171:=Tryz.func72.trans (congrArg some (by kernel_rfl))
 f243:=Tryz.func154.trans (congrArg some (by kernel_rfl))
 f246:=Tryz.func209.trans (congrArg some (by kernel_rfl))
 f283:=Tryz.func253.trans (congrArg some (by kernel_rfl))
 f284:=Tryz.func254.trans (congrArg some (by kernel_rfl))
 f285:=Tryz.func255.trans (congrArg some (by kernel_rfl))
 f286:=Tryz.func256.trans (congrArg some (by kernel_rfl))
 f317:=Tryz.func285.trans (congrArg some (by kernel_rfl))
 f318:=Tryz.func286.trans (congrArg some (by kernel_rfl))
 f319:=Tryz.func287.trans (congrArg some (by kernel_rfl))
 f320:=Tryz.func288.trans (congrArg some (by kernel_rfl))
 f337:=Tryz.func312.trans (congrArg some (by kernel_rfl))
 f338:=Tryz.func313.trans (congrArg some (by kernel_rfl))
 t0:=Tryz.underlying0
 a0:=Tryz.isAgg0
 z0:=Tryz.sizeOf0
 v0:=Tryz.zeroValue0
 t2:=Tryz.underlying2
 a2:=Tryz.isAgg2
 z2:=Tryz.sizeOf2
 v2:=Tryz.zeroValue2
 t3:=Tryz.underlying3
 a3:=Tryz.isAgg3
 z3:=Tryz.sizeOf3
 v3:=Tryz.zeroValue3
 t4:=Tryz.underlying4
 a4:=Tryz.isAgg4
 z4:=Tryz.sizeOf4
 v4:=Tryz.zeroValue4
 t5:=Tryz.underlying5
 a5:=Tryz.isAgg5
 z5:=Tryz.sizeOf5
 v5:=Tryz.zeroValue5
 t9:=Tryz.underlying9
 a9:=Tryz.isAgg9
 z9:=Tryz.sizeOf9
 v9:=Tryz.zeroValue9
 t20:=Tryz.underlying20
 a20:=Tryz.isAgg20
 z20:=Tryz.sizeOf20
 v20:=Tryz.zeroValue20
 t37:=Tryz.underlying154
 a37:=Tryz.isAgg154
 z37:=Tryz.sizeOf154
 v37:=Tryz.zeroValue154
 t46:=Tryz.underlying262
 a46:=Tryz.isAgg262
 z46:=Tryz.sizeOf262
 v46:=Tryz.zeroValue262
 t51:=Tryz.underlying309
 a51:=Tryz.isAgg309
 z51:=Tryz.sizeOf309
 v51:=Tryz.zeroValue309
 t53:=Tryz.underlying293
 a53:=Tryz.isAgg293
 z53:=Tryz.sizeOf293
 v53:=Tryz.zeroValue293
 t171:=Tryz.underlying338
 a171:=Tryz.isAgg338
 z171:=Tryz.sizeOf338
 v171:=Tryz.zeroValue338
 t173:=Tryz.underlying340
 a173:=Tryz.isAgg340
 z173:=Tryz.sizeOf340
 v173:=Tryz.zeroValue340
 t212:=Tryz.underlying387
 a212:=Tryz.isAgg387
 z212:=Tryz.sizeOf387
 v212:=Tryz.zeroValue387
 t213:=Tryz.underlying388
 a213:=Tryz.isAgg388
 z213:=Tryz.sizeOf388
 t232:=Tryz.underlying439
 a232:=Tryz.isAgg439
 z232:=Tryz.sizeOf439
 v232:=Tryz.zeroValue439
 t233:=Tryz.underlying440
 a233:=Tryz.isAgg440
 z233:=Tryz.sizeOf440
 v233:=Tryz.zeroValue440
 g17:=by kernel_rfl
 g18:=by kernel_rfl
 g19:=by kernel_rfl
 i0:=by kernel_rfl
 i2:=by kernel_rfl
 i3:=by kernel_rfl
 i4:=by kernel_rfl
 i5:=by kernel_rfl
 i9:=by kernel_rfl
 i20:=by kernel_rfl
 i37:=by kernel_rfl
 i46:=by kernel_rfl
 i51:=by kernel_rfl
 i53:=by kernel_rfl
 i171:=by kernel_rfl
 i173:=by kernel_rfl
 i212:=by kernel_rfl
 i232:=by kernel_rfl
 i233:=by kernel_rfl
 m17:=by kernel_rfl
 m18:=by kernel_rfl
 m19:=by kernel_rfl }
open Go.RowKit Go.Sort Go.Lib in
theorem Tryz.strconv_Itoa (n:Int) (h0 : -9223372036854775808<=n) (h1:n<=9223372036854775807) (w:World) (htab:Lib.TabIs Tryz.prog w "internal/strconv.uint64pow10" .u64 Lib.pow10Tab) :
 Calls Tryz.prog 72 #[.int .i64 n] w fun e w'=>e=.returned (.string ⟨(Lib.itoa n).toArray⟩)/\∃ k os,w'=grow (w.drewN k) os:=Any.strconv_Itoa Tryz.laysM171 n h0 h1 w htab
end Go.Proofs
namespace Go.Proofs.YtgopfpjinohncaaGreatDoor
open Go.RowKit
theorem itoa_any (n:Int) (h0 : -9223372036854775808<=n) (h1:n<=9223372036854775807) (w:World) (htab:Lib.TabIs Tryz.prog w "internal/strconv.uint64pow10" .u64 Lib.pow10Tab) :
 Calls Tryz.prog 72 #[.int .i64 n] w fun e w'=>e=.returned (.string ⟨(Lib.itoa n).toArray⟩)/\Below w.heap.size w w':=by
 refine (Tryz.strconv_Itoa n h0 h1 w htab).mono ?_
 rintro e w' ⟨rfl,k,os,rfl⟩
 exact⟨rfl,Lib.below_grow _ _ (Nat.le_refl _) _ _⟩
end Go.Proofs.YtgopfpjinohncaaGreatDoor
namespace Go.Proofs.YtgopfpjinohncaaGreatDoor
open Go.RowKit
set_option linter.unusedVariables false
structure TxtB (c:Cmd):Prop where
 rname:c.rel.name.length<=140737488351232
 cols:∀ x∈c.rel.cols,x.x.length<=140737488351232
 qname:c.q.name.length<=140737488351232
 heads:∀ s∈c.q.head,s.length<=140737488351232
 atoms:∀ a∈c.q.atoms,a.rel.length<=140737488351232/\∀ t∈a.ts,t.x.length<=140737488351232
 range:RangeQ c.q
 batch:RangeB c.b
 brel:∀ x∈c.b,x.rel.length<=140737488351232
 nb:c.b.length<=1048576
 join:c.b.all goodC=true->(Lib.join (c.b.map chgT) [44,32]).length<=140737488355328
 nm:c.nm.length<=140737488351232
 id : -9223372036854775808<=c.id/\c.id<=9223372036854775807
 n : -9223372036854775808<=c.n/\c.n<=9223372036854775807
 row:∀ u∈c.row,RangeV u
def restG (c:Cmd):List UInt8 × Bool :=
 if c.kind=1 then (showC c.rel.name c.rel.cols,decide (showC c.rel.name c.rel.cols≠[]))
 else if c.kind=2∨c.kind=14∨c.kind=15 then (showQ c.q,decide (showQ c.q≠[]))
 else if c.kind=4 then (showBt c.b,decide (showBt c.b≠[]∨c.b=[]))
 else if c.kind=3∨c.kind=5∨c.kind=6∨c.kind=10∨c.kind=13 then (c.nm,isNameB c.nm)
 else if c.kind=8∨c.kind=9 then (Lib.itoa c.id,true)
 else if c.kind=7 then (Lib.itoa c.id++32::Lib.itoa c.n,true)
 else if c.kind=11 then (c.nm++32::Lib.itoa c.n,isNameB c.nm)
 else if c.kind=12 then (c.nm++showRow c.row,isNameB c.nm && rowB c.row)
 else ([],true)
def wordN (k:Int):List UInt8:=wordsC.getD (k - 1).toNat []
theorem wordN_len (k:Int):(wordN k).length<=7:=by
 unfold wordN
 generalize (k - 1).toNat=n
 rcases Nat.lt_or_ge n 18 with h | h
 ·have hall:∀ m<18,(wordsC.getD m []).length<=7:=by decide
  exact hall n h
 ·rw[List.getD_eq_getElem?_getD,List.getElem?_eq_none (by show 18<=n;exact h)]
  simp
theorem wordA_at {k:Nat} (h1:1<=k) (h2:k<=18):wordsA[k]? = some (.string ⟨(wordN (k:Int)).toArray⟩):=by
 rcases (by omega:k=1∨k=2∨k=3∨k=4∨k=5∨k=6∨k=7∨k=8∨k=9∨k=10∨k=11∨k=12∨k=13∨k=14∨k=15∨k=16∨k=17∨k=18) with rfl | rfl | rfl | rfl | rfl | rfl | rfl | rfl | rfl | rfl | rfl | rfl | rfl | rfl | rfl | rfl | rfl | rfl<;>rfl
theorem textC_out {c:Cmd} (h:¬ (1<=c.kind/\c.kind<=18)):textC c=[]:=by
 unfold textC
 rw[if_pos (by omega)]
theorem textC_rest {c:Cmd} (h1:1<=c.kind) (h2:c.kind<=18):textC c=if (restG c).2=false then [] else if (restG c).1=[] then wordN c.kind else wordN c.kind++32::(restG c).1:=by
 have e:restC c=if (restG c).2=false then none else some (restG c).1:=by
  unfold restC restG
  split
  ·by_cases q:showC c.rel.name c.rel.cols=[]<;>simp [q]
  ·split
   ·by_cases q:showQ c.q=[]<;>simp [q]
   ·split
    ·by_cases q:showBt c.b=[]<;>by_cases r:c.b=[]<;>simp [q,r]
    ·split
     ·cases isNameB c.nm<;>rfl
     ·split
      ·rfl
      ·split
       ·rfl
       ·split
        ·cases isNameB c.nm<;>rfl
        ·split
         ·unfold showRow
          cases isNameB c.nm<;>cases rowB c.row<;>rfl
         ·rfl
 unfold textC wordN
 rw[if_neg (by omega),e]
 by_cases q:(restG c).2=false
 ·rw[if_pos q,if_pos q]
 ·rw[if_neg q,if_neg q]
theorem showBt_len {b:List Chg} (h:b.all goodC=true->(Lib.join (b.map chgT) [44,32]).length<=140737488355328):(showBt b).length<=140737488355328:=by
 unfold showBt
 split
 ·exact h (by assumption)
 ·simp
theorem rest_len {c:Cmd} (h:TxtB c):(restG c).1.length<=281474976710656:=by
 have hi:∀ n:Int,-9223372036854775808<=n/\n<=9223372036854775807->(Lib.itoa n).length<=21:=fun n hn=>Lib.itoa_length_le n hn.1 hn.2
 have h1:=hi _ h.id
 have h2:=hi _ h.n
 have h3:=h.nm
 have h4:=showBt_len h.join
 have h5:(showC c.rel.name c.rel.cols).length<=16384:=by
  by_cases q:chkC c.rel.name c.rel.cols=0
  ·exact (show_len q).2
  ·unfold showC
   rw[if_neg q]
   simp
 have h6:(showQ c.q).length<=16384:=by
  unfold showQ
  split
  ·rename_i q
   exact (qT_len (chkQ_right q) h.range).2.1
  ·simp
 have h7:(showRow c.row).length<=7802:=by
  unfold showRow
  split
  ·rename_i q
   exact (rowT_size q h.row).2
  ·simp
 unfold restG
 repeat' split
 all_goals
  simp only[List.length_append,List.length_cons,List.length_nil]
  omega
theorem restG_1 {c:Cmd} (h:c.kind=1):restG c=(showC c.rel.name c.rel.cols,decide (showC c.rel.name c.rel.cols≠[])):=by simp [restG,h]
theorem restG_q {c:Cmd} (h:c.kind=2∨c.kind=14∨c.kind=15):restG c=(showQ c.q,decide (showQ c.q≠[])):=by rcases h with h | h | h<;>simp [restG,h]
theorem restG_4 {c:Cmd} (h:c.kind=4):restG c=(showBt c.b,decide (showBt c.b≠[]∨c.b=[])):=by simp [restG,h]
theorem restG_n {c:Cmd} (h:c.kind=3∨c.kind=5∨c.kind=6∨c.kind=10∨c.kind=13):restG c=(c.nm,isNameB c.nm):=by rcases h with h | h | h | h | h<;>simp [restG,h]
theorem restG_i {c:Cmd} (h:c.kind=8∨c.kind=9):restG c=(Lib.itoa c.id,true):=by rcases h with h | h<;>simp [restG,h]
theorem restG_7 {c:Cmd} (h:c.kind=7):restG c=(Lib.itoa c.id++32::Lib.itoa c.n,true):=by simp [restG,h]
theorem restG_11 {c:Cmd} (h:c.kind=11):restG c=(c.nm++32::Lib.itoa c.n,isNameB c.nm):=by simp [restG,h]
theorem restG_12 {c:Cmd} (h:c.kind=12):restG c=(c.nm++showRow c.row,isNameB c.nm && rowB c.row):=by simp [restG,h]
theorem restG_0 {c:Cmd} (h:c.kind=16∨c.kind=17∨c.kind=18):restG c=([],true):=by rcases h with h | h | h<;>simp [restG,h]
end Go.Proofs.YtgopfpjinohncaaGreatDoor
namespace Go.Proofs.YtgopfpjinohncaaGreatDoor
open Go.RowKit
set_option linter.unusedVariables false
theorem held2 {n i j:Nat} {u v:Value} {wc W W':World} (h:W.cell? ⟨n,i,none⟩=some u/\W.cell? ⟨n,j,none⟩=some v/\Below wc.heap.size wc W) (hn:n<wc.heap.size) (hb:Below W.heap.size W W'):W'.cell? ⟨n,i,none⟩=some u/\W'.cell? ⟨n,j,none⟩=some v/\Below wc.heap.size wc W':=by
 obtain⟨q1,q2,q3⟩:=h
 have:=q3.size
 exact⟨(hb.cell (p:=⟨n,i,none⟩) (by simp only;omega)).trans q1,(hb.cell (p:=⟨n,j,none⟩) (by simp only;omega)).trans q2,q3.trans (hb.mono this)⟩
theorem bytes_of {R:ByteArray} {l:List UInt8} (h:R.data.toList=l):R=⟨l.toArray⟩:=ByteArray.ext (Array.toList_inj.1 (by simpa using h))
set_option maxHeartbeats 16000000 in
set_option maxRecDepth 100000 in
theorem text_any (w:World) (cells:Array Value) (c:Cmd) (h:CmdAt w cells c) (hB:TxtB c) (hg:GlobW w) :
 Calls Tryz.prog 23 #[.agg cells] w fun e w'=>e=.returned (.string ⟨(textC c).toArray⟩)/\Below w.heap.size w w':=by
 obtain⟨cv,hv,av,bv,rv,rfl,a1,a2,a3,a4,a5⟩:=h
 have hl8:∀ n:Nat,n<=140737488351232->n<=140737488355328:=fun n q=>by omega
 have HR:=Lib.hid (fun W (hW:Below w.heap.size w W)=>show_any8 W ⟨c.rel.name.toArray⟩ cv c.rel.cols (a1.keep hW) (hl8 _ hB.rname) (fun x hx=>hl8 _ (hB.cols x hx)))
 have HQ:=Lib.hid (fun W (hW:Below w.heap.size w W)=>qshow_any W ⟨c.q.name.toArray⟩ hv av c.q.head c.q.atoms (a2.keep hW) (a3.keep hW) (hl8 _ hB.qname) (fun x hx=>hl8 _ (hB.heads x hx)) (fun x hx=>⟨hl8 _ (hB.atoms x hx).1,fun t ht=>hl8 _ ((hB.atoms x hx).2 t ht)⟩) hB.range (hg.g.below hW))
 have HC:=Lib.hid (fun W (hW:Below w.heap.size w W)=>chgShow_any W bv c.b (a4.keep hW) hB.batch (fun x hx=>hl8 _ (hB.brel x hx)) hB.join (hg.g.below hW))
 have HN:=Lib.hid (fun W=>isName_any ⟨c.nm.toArray⟩ W (hl8 _ hB.nm))
 have HI:=Lib.hid (fun W (hW:Below w.heap.size w W)=>itoa_any c.id hB.id.1 hB.id.2 W (hg.below hW).g.tab)
 have HJ:=Lib.hid (fun W (hW:Below w.heap.size w W)=>itoa_any c.n hB.n.1 hB.n.2 W (hg.below hW).g.tab)
 have HV:=Lib.hid (fun W (hW:Below w.heap.size w W)=>rowShow_any W rv c.row (a5.keep hW) hB.row (hg.g.below hW))
 have HW:=Lib.hid (fun W (hW:Below w.heap.size w W)=>rowValid_any W rv c.row (a5.keep hW))
 have hrl:=rest_len hB
 have hnl:=hB.nm
 have e1:=Lib.itoa_length_le c.id hB.id.1 hB.id.2
 have e2:=Lib.itoa_length_le c.n hB.n.1 hB.n.2
 have e3:(showRow c.row).length<=7802:=by
  unfold showRow
  split
  ·rename_i q
   exact (rowT_size q hB.row).2
  ·simp
 obtain⟨o1,l1,rfl,_,_⟩:=a1.form
 obtain⟨o2,l2,rfl,_,_⟩:=a2.form
 obtain⟨o3,l3,rfl,_,_⟩:=a3.form
 obtain⟨o4,l4,rfl,_,_⟩:=a4.form
 obtain⟨o5,l5,rfl,_,_⟩:=a5.form
 have HG:=Lib.hid hg
 have G1:=Lib.hid (restG_1 (c:=c))
 have GQ:=Lib.hid (restG_q (c:=c))
 have G4:=Lib.hid (restG_4 (c:=c))
 have GN:=Lib.hid (restG_n (c:=c))
 have GI:=Lib.hid (restG_i (c:=c))
 have G7:=Lib.hid (restG_7 (c:=c))
 have G11:=Lib.hid (restG_11 (c:=c))
 have G12:=Lib.hid (restG_12 (c:=c))
 have G0:=Lib.hid (restG_0 (c:=c))
 have TO:=Lib.hid (textC_out (c:=c))
 have TR:=Lib.hid (textC_rest (c:=c))
 clear a1 a2 a3 a4 a5 hg hB hl8
 obtain⟨SG,hSG⟩:∃ SG,restG c=SG:=⟨_,rfl⟩
 obtain⟨TX,hTX⟩:∃ TX,textC c=TX:=⟨_,rfl⟩
 rw[hSG] at G1 GQ G4 GN GI G7 G11 G12 G0 TR hrl
 rw[hTX] at TO TR ⊢
 clear hSG hTX
 obtain⟨ck,⟨rn,cols⟩,⟨qn,hd,al⟩,bb,nm,ci,cn,row⟩:=c
 simp only at *
 generalize (⟨rn.toArray⟩:ByteArray)=x1 at *
 generalize (⟨qn.toArray⟩:ByteArray)=x2 at *
 generalize hx3:(⟨nm.toArray⟩:ByteArray)=x3 at *
 have HX3:=Lib.hid hx3
 clear hx3
 generalize (List.map Col.cells cols).length=n1 at *
 generalize hd.length=n2 at *
 generalize (List.map Vl.cells row).length=n5 at *
 generalize al.length=n3 at *
 generalize hm4:bb.length=n4 at *
 have HM4:=Lib.hid hm4
 clear hm4
 by_cases hk:1<=ck/\ck<=18
 case neg =>
  have ht:=TO.out hk
  subst ht
  clear HR HQ HC HN HI HJ HV HW G1 GQ G4 GN GI G7 G11 G12 G0 TO TR HG
  have hd1:(decide (ck<1) || decide (18<ck))=true:=by simp;omega
  go_enter Tryz.func23,Tryz.ntmps23
  by_cases hlo:ck<1
  ·have hd2:decide (ck<1)=true:=by simp;omega
   go_wp2_with fail
   go_ret
   exact⟨rfl,balloc (Below.refl _ _) _⟩
  ·have hd2:decide (ck<1)=false:=by simp;omega
   have hd3:decide (18<ck)=true:=by simp;omega
   go_wp2_with fail
   go_ret
   exact⟨rfl,balloc (Below.refl _ _) _⟩
 case pos =>
  obtain⟨k,rfl⟩:∃ k:Nat,ck=(k:Int):=⟨ck.toNat,by omega⟩
  have hk1:1<=k:=by omega
  have hk2:k<=18:=by omega
  have hd2:decide ((k:Int)<1)=false:=by simp;omega
  have hd3:decide (18<(k:Int))=false:=by simp;omega
  have hd4:decide ((k:Int)<0)=false:=by simp
  have hd5:decide (19<=(k:Int))=false:=by simp;omega
  have HT:=Lib.hid (TR.out hk.1 hk.2)
  clear TO TR
  have hb0:Below w.heap.size w (w.alloc (.cells #[.int .i64 (k:Int),.string x1,.slice o1 n1 l1,.string x2,.slice o2 n2 l2,.slice o3 n3 l3,.slice o4 n4 l4,.string x3,.int .i64 ci,.int .i64 cn,.slice o5 n5 l5] 61)):=balloc (Below.refl _ _) _
  have hbx:=Blk.new w 61 #[.int .i64 (k:Int),.string x1,.slice o1 n1 l1,.string x2,.slice o2 n2 l2,.slice o3 n3 l3,.slice o4 n4 l4,.string x3,.int .i64 ci,.int .i64 cn,.slice o5 n5 l5]
  obtain⟨W0,hW0⟩:∃ W0,w.alloc (.cells #[.int .i64 (k:Int),.string x1,.slice o1 n1 l1,.string x2,.slice o2 n2 l2,.slice o3 n3 l3,.slice o4 n4 l4,.string x3,.int .i64 ci,.int .i64 cn,.slice o5 n5 l5] 61)=W0:=⟨_,rfl⟩
  rw[hW0] at hb0 hbx
  have hg0:=HG.out.below hb0
  have kw:=hg0.v.cell k
  rw[wordA_at hk1 hk2] at kw
  have kl:=hg0.v.lt
  have hwl:=wordN_len (k:Int)
  generalize wordN (k:Int)=WD at *
  generalize hwb:(⟨WD.toArray⟩:ByteArray)=wb at *
  have hws:wb.size<=7:=by rw[<-hwb];simpa [ByteArray.size] using hwl
  have HWB:=Lib.hid hwb
  have x0:=hbx.cell 0
  have xl:=hbx.lt
  simp only[List.getElem?_toArray,List.getElem?_cons_zero] at x0
  have HB0:=Lib.hid hb0
  have HBX:=Lib.hid hbx
  have HW0:=Lib.hid hW0
  have HK:=Lib.hid hk
  clear hb0 hbx hg0 hwb hwl hW0 HG
  go_enter Tryz.func23,Tryz.ntmps23
  go_upto_region 1 with fail
  rw[HW0.out]
  go_upto_region 5 with fail
  go_cut [19] from 19 (fun s19 wx=>s19=.int .i64 (k:Int)/\wx=W0)
  case first =>
   go_wp2_with fail
   go_meet
   exact⟨rfl,rfl⟩
  case rest =>
   obtain⟨rfl,rfl⟩:=hcut
   rename_i KK hKK
   refine hKK _ _ ?_
   clear hKK KK
   go_cut [4,5] from 20 (fun s4 s5 wx=>s4=.string ⟨SG.1.toArray⟩/\s5=.bool SG.2/\Hid (Below wc.heap.size wc wx))
   case first =>
    have y1:=HBX.out.cell 1
    have y2:=HBX.out.cell 2
    have y3:=HBX.out.cell 3
    have y4:=HBX.out.cell 4
    have y5:=HBX.out.cell 5
    have y6:=HBX.out.cell 6
    have y7:=HBX.out.cell 7
    have y8:=HBX.out.cell 8
    have y9:=HBX.out.cell 9
    have y10:=HBX.out.cell 10
    simp only[List.getElem?_toArray,List.getElem?_cons_zero,List.getElem?_cons_succ] at y1 y2 y3 y4 y5 y6 y7 y8 y9 y10
    rcases (by omega:k=1∨(k=2∨k=14∨k=15)∨k=4∨(k=3∨k=5∨k=6∨k=10∨k=13)∨(k=8∨k=9)∨k=7∨k=11∨k=12∨(k=16∨k=17∨k=18)) with rfl | hq | rfl | hq | hq | rfl | rfl | rfl | hq
    ·have hS:=G1.out rfl
     clear HQ HC HN HI HJ HV HW G1 GQ G4 GN GI G7 G11 G12 G0 y3 y4 y5 y6 y7 y8 y9 y10
     generalize showC rn cols=S at *
     subst hS
     go_wp2_with (go_at_call 68;refine (HR.out _ HB0.out).mono ?_;rintro e w' ⟨rfl,hb'⟩)
     go_meet
     exact⟨rfl,congrArg Value.bool (by cases S<;>simp),Lib.hid hb'⟩
    ·have hS:=GQ.out (by omega)
     clear HR HC HN HI HJ HV HW G1 GQ G4 GN GI G7 G11 G12 G0 y1 y2 y6 y7 y8 y9 y10
     generalize showQ ⟨qn,hd,al⟩=S at *
     subst hS
     rcases hq with rfl | rfl | rfl
     all_goals
      go_wp2_with (go_at_call 69;refine (HQ.out _ HB0.out).mono ?_;rintro e w' ⟨rfl,hb'⟩)
      go_meet
      exact⟨rfl,congrArg Value.bool (by cases S<;>simp),Lib.hid hb'⟩
    ·have hS:=G4.out rfl
     clear HR HQ HN HI HJ HV HW G1 GQ G4 GN GI G7 G11 G12 G0 y1 y2 y3 y4 y5 y7 y8 y9 y10
     generalize showBt bb=S at *
     subst hS
     rcases S with _ | ⟨x0,S⟩
     ·go_wp2_with (go_at_call 70;refine (HC.out _ HB0.out).mono ?_;rintro e w' ⟨rfl,hb'⟩;have y6':=(hb'.cell (p:=⟨w.heap.size,6,none⟩) xl).trans y6)
      go_meet
      refine⟨rfl,congrArg Value.bool ?_,Lib.hid hb'⟩
      have:=HM4.out
      cases bb<;>simp at this ⊢ <;> omega
     ·go_wp2_with (go_at_call 70;refine (HC.out _ HB0.out).mono ?_;rintro e w' ⟨rfl,hb'⟩)
      go_meet
      exact⟨rfl,congrArg Value.bool (by simp),Lib.hid hb'⟩
    ·have hS:=GN.out (by omega)
     clear HR HQ HC HI HJ HV HW G1 GQ G4 GN GI G7 G11 G12 G0 y1 y2 y3 y4 y5 y6 y8 y9 y10
     subst hS
     rcases hq with rfl | rfl | rfl | rfl | rfl
     all_goals
      go_upto_region 22 with fail
      go_quiet ((go_at_call 71;exact Calls.quiet_of_same ((HN.out _).mono fun _ _ h=>⟨h.1,h.2.symm⟩)))
      go_wp2_with fail
      go_meet
      exact⟨congrArg Value.string HX3.out.symm,rfl,Lib.hid (bdrewN (Below.refl _ _) _)⟩
    ·have hS:=GI.out (by omega)
     clear HR HQ HC HN HJ HV HW G1 GQ G4 GN GI G7 G11 G12 G0 y1 y2 y3 y4 y5 y6 y7 y9 y10
     subst hS
     rcases hq with rfl | rfl
     all_goals
      go_wp2_with (go_at_call 72;refine (HI.out _ HB0.out).mono ?_;rintro e w' ⟨rfl,hb'⟩)
      go_meet
      exact⟨rfl,rfl,Lib.hid hb'⟩
    ·have hS:=G7.out rfl
     have hb0:=HB0.out
     have li:∀ W,W.cell? ⟨w.heap.size,8,none⟩=some (.int .i64 ci)/\W.cell? ⟨w.heap.size,9,none⟩=some (.int .i64 cn)/\Below wc.heap.size wc W->Calls Tryz.prog 72 #[.int .i64 ci] W fun e w'=>e=.returned (.string ⟨(Lib.itoa ci).toArray⟩)/\w'.cell? ⟨w.heap.size,8,none⟩=some (.int .i64 ci)/\w'.cell? ⟨w.heap.size,9,none⟩=some (.int .i64 cn)/\Below wc.heap.size wc w':=fun W hW=>(HI.out W (hb0.trans (hW.2.2.mono hb0.size))).mono fun e w' h=>⟨h.1,held2 hW xl h.2⟩
     have lj:∀ W,W.cell? ⟨w.heap.size,8,none⟩=some (.int .i64 ci)/\W.cell? ⟨w.heap.size,9,none⟩=some (.int .i64 cn)/\Below wc.heap.size wc W->Calls Tryz.prog 72 #[.int .i64 cn] W fun e w'=>e=.returned (.string ⟨(Lib.itoa cn).toArray⟩)/\w'.cell? ⟨w.heap.size,8,none⟩=some (.int .i64 ci)/\w'.cell? ⟨w.heap.size,9,none⟩=some (.int .i64 cn)/\Below wc.heap.size wc w':=fun W hW=>(HJ.out W (hb0.trans (hW.2.2.mono hb0.size))).mono fun e w' h=>⟨h.1,held2 hW xl h.2⟩
     have LI:=Lib.hid li
     have LJ:=Lib.hid lj
     clear HR HQ HC HN HI HJ HV HW li lj G1 GQ G4 GN GI G7 G11 G12 G0 hb0 y1 y2 y3 y4 y5 y6 y7 y10
     subst hS
     generalize hA:(⟨(Lib.itoa ci).toArray⟩:ByteArray)=A at *
     generalize hB:(⟨(Lib.itoa cn).toArray⟩:ByteArray)=B at *
     have a1:A.size<=21:=by rw[<-hA];simpa [ByteArray.size] using e1
     have a2:B.size<=21:=by rw[<-hB];simpa [ByteArray.size] using e2
     have v1:¬ 9223372036854775807<A.size+1:=by omega
     have v2:¬ 9223372036854775807<A.size+1+B.size:=by omega
     have HA:=Lib.hid (And.intro hA hB)
     clear hA hB e1 e2
     go_upto_region 27 with fail
     go_region_held3 (fun w'=>w'.cell? ⟨w.heap.size,8,none⟩=some (.int .i64 ci)/\w'.cell? ⟨w.heap.size,9,none⟩=some (.int .i64 cn)/\Below wc.heap.size wc w')
      (first | exact hK | (go_split_ands;refine⟨?_,?_,?_⟩<;>first | exact bdrew (by assumption) | exact bdrew (Below.refl _ _) | assumption | go_keep))
      (first
        | (go_at_call 72;go_split_ands;refine (LI.out _ ⟨by assumption,by assumption,by assumption⟩).mono ?_;rintro e w' ⟨rfl,hK⟩)
        | (go_at_call 72;go_split_ands;refine (LJ.out _ ⟨by assumption,by assumption,by assumption⟩).mono ?_;rintro e w' ⟨rfl,hK⟩))
     all_goals go_split_ands
     all_goals go_wp2_with fail
     all_goals
      go_meet
      refine⟨congrArg Value.string (bytes_of ?_),rfl,Lib.hid (by assumption)⟩
      rw[<-HA.out.1,<-HA.out.2]
      simp
    ·have hS:=G11.out rfl
     have hb0:=HB0.out
     have lj:∀ W,W.cell? ⟨w.heap.size,7,none⟩=some (.string x3)/\W.cell? ⟨w.heap.size,9,none⟩=some (.int .i64 cn)/\Below wc.heap.size wc W->Calls Tryz.prog 72 #[.int .i64 cn] W fun e w'=>e=.returned (.string ⟨(Lib.itoa cn).toArray⟩)/\w'.cell? ⟨w.heap.size,7,none⟩=some (.string x3)/\w'.cell? ⟨w.heap.size,9,none⟩=some (.int .i64 cn)/\Below wc.heap.size wc w':=fun W hW=>(HJ.out W (hb0.trans (hW.2.2.mono hb0.size))).mono fun e w' h=>⟨h.1,held2 hW xl h.2⟩
     have ln:∀ W,W.cell? ⟨w.heap.size,7,none⟩=some (.string x3)/\W.cell? ⟨w.heap.size,9,none⟩=some (.int .i64 cn)/\Below wc.heap.size wc W->Calls Tryz.prog 71 #[.string x3] W fun e w'=>e=.returned (.bool (isNameB nm))/\w'.cell? ⟨w.heap.size,7,none⟩=some (.string x3)/\w'.cell? ⟨w.heap.size,9,none⟩=some (.int .i64 cn)/\Below wc.heap.size wc w':=fun W hW=>(HN.out W).mono fun e w' h=>⟨h.1,h.2 ▸ hW⟩
     have LJ:=Lib.hid lj
     have LN:=Lib.hid ln
     clear HR HQ HC HN HI HJ HV HW lj ln G1 GQ G4 GN GI G7 G11 G12 G0 hb0 y1 y2 y3 y4 y5 y6 y8 y10
     subst hS
     generalize hB:(⟨(Lib.itoa cn).toArray⟩:ByteArray)=B at *
     have a2:B.size<=21:=by rw[<-hB];simpa [ByteArray.size] using e2
     have a3:x3.size<=140737488351232:=by rw[<-HX3.out];simpa [ByteArray.size] using hnl
     have v1:¬ 9223372036854775807<x3.size+1:=by omega
     have v2:¬ 9223372036854775807<x3.size+1+B.size:=by omega
     have HA:=Lib.hid hB
     clear hB e1 e2
     go_upto_region 29 with fail
     go_region_held3 (fun w'=>w'.cell? ⟨w.heap.size,7,none⟩=some (.string x3)/\w'.cell? ⟨w.heap.size,9,none⟩=some (.int .i64 cn)/\Below wc.heap.size wc w')
      (first | exact hK | (go_split_ands;refine⟨?_,?_,?_⟩<;>first | exact bdrew (by assumption) | exact bdrew (Below.refl _ _) | assumption | go_keep))
      (first
        | (go_at_call 72;go_split_ands;refine (LJ.out _ ⟨by assumption,by assumption,by assumption⟩).mono ?_;rintro e w' ⟨rfl,hK⟩)
        | (go_at_call 71;go_split_ands;refine (LN.out _ ⟨by assumption,by assumption,by assumption⟩).mono ?_;rintro e w' ⟨rfl,hK⟩))
     all_goals go_split_ands
     all_goals go_wp2_with fail
     all_goals
      go_meet
      refine⟨congrArg Value.string (bytes_of ?_),rfl,Lib.hid (by assumption)⟩
      rw[<-HA.out,<-HX3.out]
      simp
    ·have hS:=G12.out rfl
     have hb0:=HB0.out
     have ln:∀ W,W.cell? ⟨w.heap.size,7,none⟩=some (.string x3)/\W.cell? ⟨w.heap.size,10,none⟩=some (.slice o5 n5 l5)/\Below wc.heap.size wc W->Calls Tryz.prog 71 #[.string x3] W fun e w'=>e=.returned (.bool (isNameB nm))/\w'.cell? ⟨w.heap.size,7,none⟩=some (.string x3)/\w'.cell? ⟨w.heap.size,10,none⟩=some (.slice o5 n5 l5)/\Below wc.heap.size wc w':=fun W hW=>(HN.out W).mono fun e w' h=>⟨h.1,h.2 ▸ hW⟩
     have lv:∀ W,W.cell? ⟨w.heap.size,7,none⟩=some (.string x3)/\W.cell? ⟨w.heap.size,10,none⟩=some (.slice o5 n5 l5)/\Below wc.heap.size wc W->Calls Tryz.prog 73 #[.slice o5 n5 l5] W fun e w'=>e=.returned (.string ⟨(showRow row).toArray⟩)/\w'.cell? ⟨w.heap.size,7,none⟩=some (.string x3)/\w'.cell? ⟨w.heap.size,10,none⟩=some (.slice o5 n5 l5)/\Below wc.heap.size wc w':=fun W hW=>(HV.out W (hb0.trans (hW.2.2.mono hb0.size))).mono fun e w' h=>⟨h.1,held2 hW xl h.2⟩
     have lx:∀ W,W.cell? ⟨w.heap.size,7,none⟩=some (.string x3)/\W.cell? ⟨w.heap.size,10,none⟩=some (.slice o5 n5 l5)/\Below wc.heap.size wc W->Calls Tryz.prog 74 #[.slice o5 n5 l5] W fun e w'=>e=.returned (.bool (rowB row))/\w'.cell? ⟨w.heap.size,7,none⟩=some (.string x3)/\w'.cell? ⟨w.heap.size,10,none⟩=some (.slice o5 n5 l5)/\Below wc.heap.size wc w':=fun W hW=>(HW.out W (hb0.trans (hW.2.2.mono hb0.size))).mono fun e w' h=>⟨h.1,held2 hW xl h.2⟩
     have LN:=Lib.hid ln
     have LV:=Lib.hid lv
     have LX:=Lib.hid lx
     clear HR HQ HC HN HI HJ HV HW ln lv lx G1 GQ G4 GN GI G7 G11 G12 G0 hb0 y1 y2 y3 y4 y5 y6 y8 y9
     subst hS
     generalize hB:(⟨(showRow row).toArray⟩:ByteArray)=B at *
     have a2:B.size<=7802:=by rw[<-hB];simpa [ByteArray.size] using e3
     have a3:x3.size<=140737488351232:=by rw[<-HX3.out];simpa [ByteArray.size] using hnl
     have v1:¬ 9223372036854775807<x3.size+B.size:=by omega
     have HA:=Lib.hid hB
     clear hB e1 e2
     generalize isNameB nm=bn at *
     cases bn
     ·go_upto_region 31 with fail
      first
       | (go_region_law (first
           | (go_simp;go_at_call 73;refine (LV.out _ ⟨by first | assumption | (simp;assumption),by first | assumption | (simp;assumption),by first | assumption | exact bdrew (Below.refl _ _) | exact bdrew (by assumption)⟩).mono ?_;rintro e w' ⟨rfl,hK1,hK2,hK3⟩)
           | (go_simp;go_at_call 71;refine (LN.out _ ⟨by first | assumption | (simp;assumption),by first | assumption | (simp;assumption),by first | assumption | exact bdrew (Below.refl _ _) | exact bdrew (by assumption)⟩).mono ?_;rintro e w' ⟨rfl,hK1,hK2,hK3⟩)))
       | fail "no way"
      all_goals go_split_ands
      all_goals go_wp2_with fail
      all_goals
       go_meet
       refine⟨congrArg Value.string (bytes_of ?_),by simp,Lib.hid (by assumption)⟩
       rw[<-HA.out,<-HX3.out]
       simp
     ·go_upto_region 31 with fail
      go_region_held3 (fun w'=>w'.cell? ⟨w.heap.size,7,none⟩=some (.string x3)/\w'.cell? ⟨w.heap.size,10,none⟩=some (.slice o5 n5 l5)/\Below wc.heap.size wc w')
       (first | exact hK | (go_split_ands;refine⟨?_,?_,?_⟩<;>first | exact bdrew (by assumption) | exact bdrew (Below.refl _ _) | assumption | go_keep))
       (first
         | (go_at_call 73;go_split_ands;refine (LV.out _ ⟨by assumption,by assumption,by assumption⟩).mono ?_;rintro e w' ⟨rfl,hK⟩)
         | (go_at_call 71;go_split_ands;refine (LN.out _ ⟨by assumption,by assumption,by assumption⟩).mono ?_;rintro e w' ⟨rfl,hK⟩)
         | (go_at_call 74;go_split_ands;refine (LX.out _ ⟨by assumption,by assumption,by assumption⟩).mono ?_;rintro e w' ⟨rfl,hK⟩))
      all_goals go_split_ands
      all_goals go_wp2_with fail
      all_goals
       go_meet
       refine⟨congrArg Value.string (bytes_of ?_),by simp,Lib.hid (by assumption)⟩
       rw[<-HA.out,<-HX3.out]
       simp
    ·have hS:=G0.out (by omega)
     clear HR HQ HC HN HI HJ HV HW G1 GQ G4 GN GI G7 G11 G12 G0 y1 y2 y3 y4 y5 y6 y7 y8 y9 y10
     subst hS
     rcases hq with rfl | rfl | rfl
     all_goals
      go_wp2_with fail
      go_meet
      exact⟨rfl,rfl,Lib.hid (Below.refl _ _)⟩
   case rest =>
    obtain⟨rfl,rfl,HB1⟩:=hcut
    clear HR HQ HC HN HI HJ HV HW G1 GQ G4 GN GI G7 G11 G12 G0 hnl e1 e2 e3
    have hts:=HT.out
    have HB2:=Lib.hid (HB0.out.trans (HB1.out.mono HB0.out.size))
    clear HT
    obtain⟨SS,GG⟩:=SG
    simp only at *
    cases GG with
    | false =>
      have ht:TX=[]:=by simpa using hts
      subst ht
      clear hts
      go_wp2_with fail
      go_ret
      exact⟨rfl,HB2.out⟩
    | true =>
      cases SS with
      | nil =>
        have ht:TX=WD:=by simpa using hts
        subst ht
        clear hts
        go_wp2_with fail
        go_ret
        exact⟨congrArg (fun x=>Ending.returned (.string x)) HWB.out.symm,HB2.out⟩
      | cons x0 SS =>
        have ht:TX=WD++32::x0::SS:=by simpa using hts
        have hsz:(x0::SS).length<=281474976710656:=hrl
        have HTX:=Lib.hid ht
        have hne:((⟨(x0::SS).toArray⟩:ByteArray).toList == [])=false:=by rw[ByteArray.toList_eq];simp
        generalize hS:(⟨(x0::SS).toArray⟩:ByteArray)=sb at *
        have hss:sb.size<=281474976710656:=by rw[<-hS];simpa [ByteArray.size] using hsz
        have v1:¬ 9223372036854775807<wb.size+1:=by omega
        have v2:¬ 9223372036854775807<wb.size+1+sb.size:=by omega
        have HS:=Lib.hid hS
        clear hts hrl hS hsz ht
        go_wp2_with fail
        go_ret
        refine⟨congrArg (fun x=>Ending.returned (.string x)) (bytes_of ?_),HB2.out⟩
        rw[HTX.out,<-HWB.out,<-HS.out]
        simp
end Go.Proofs.YtgopfpjinohncaaGreatDoor
