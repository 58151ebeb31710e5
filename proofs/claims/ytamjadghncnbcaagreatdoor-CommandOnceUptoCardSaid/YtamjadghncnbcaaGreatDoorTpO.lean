/- A command's text, part by part; plainly. -/
import Derived.Test.YtamjadghncnbcaaGreatDoorDaO
import Derived.Test.YtamjadghncnbcaaGreatDoorKfO
namespace Go.Proofs.YtamjadghncnbcaaGreatDoor
open Go.RowKit
set_option linter.unusedVariables false
structure TxtB (c:Cmd):Prop where
 rname:c.rel.name.length<=140737488351232
 cols:∀ x∈c.rel.cols,x.x.length<=140737488351232
 qname:c.q.name.length<=140737488351232
 heads:∀ s∈c.q.head,s.length<=140737488351232
 atoms:∀ a∈c.q.atoms,a.rel.length<=140737488351232/\∀ t∈a.ts,t.x.length<=140737488351232
 range:RangeQ c.q
 batch:RangeB c.b
 brel:∀ x∈c.b,x.rel.length<=140737488351232
 nb:c.b.length<=1048576
 join:c.b.all goodC=true->(Lib.join (c.b.map chgT) [44,32]).length<=140737488355328
 nm:c.nm.length<=140737488351232
 id : -9223372036854775808<=c.id/\c.id<=9223372036854775807
 n : -9223372036854775808<=c.n/\c.n<=9223372036854775807
 row:∀ u∈c.row,RangeV u
def restG (c:Cmd):List UInt8 × Bool :=
 if c.kind=1 then (showC c.rel.name c.rel.cols,decide (showC c.rel.name c.rel.cols≠[]))
 else if c.kind=2∨c.kind=14∨c.kind=15 then (showQ c.q,decide (showQ c.q≠[]))
 else if c.kind=4 then (showBt c.b,decide (showBt c.b≠[]∨c.b=[]))
 else if c.kind=3∨c.kind=5∨c.kind=6∨c.kind=10∨c.kind=13 then (c.nm,isNameB c.nm)
 else if c.kind=8∨c.kind=9 then (Lib.itoa c.id,true)
 else if c.kind=7 then (Lib.itoa c.id++32::Lib.itoa c.n,true)
 else if c.kind=11 then (c.nm++32::Lib.itoa c.n,isNameB c.nm)
 else if c.kind=12 then (c.nm++showRow c.row,isNameB c.nm && rowB c.row)
 else ([],true)
def wordN (k:Int):List UInt8:=wordsC.getD (k - 1).toNat []
theorem wordN_len (k:Int):(wordN k).length<=7:=by
 unfold wordN
 generalize (k - 1).toNat=n
 rcases Nat.lt_or_ge n 18 with h | h
 ·have hall:∀ m<18,(wordsC.getD m []).length<=7:=by decide
  exact hall n h
 ·rw[List.getD_eq_getElem?_getD,List.getElem?_eq_none (by show 18<=n;exact h)]
  simp
theorem wordA_at {k:Nat} (h1:1<=k) (h2:k<=18):wordsA[k]? = some (.string ⟨(wordN (k:Int)).toArray⟩):=by
 rcases (by omega:k=1∨k=2∨k=3∨k=4∨k=5∨k=6∨k=7∨k=8∨k=9∨k=10∨k=11∨k=12∨k=13∨k=14∨k=15∨k=16∨k=17∨k=18) with rfl | rfl | rfl | rfl | rfl | rfl | rfl | rfl | rfl | rfl | rfl | rfl | rfl | rfl | rfl | rfl | rfl | rfl<;>rfl
theorem textC_out {c:Cmd} (h:¬ (1<=c.kind/\c.kind<=18)):textC c=[]:=by
 unfold textC
 rw[if_pos (by omega)]
theorem textC_rest {c:Cmd} (h1:1<=c.kind) (h2:c.kind<=18):textC c=if (restG c).2=false then [] else if (restG c).1=[] then wordN c.kind else wordN c.kind++32::(restG c).1:=by
 have e:restC c=if (restG c).2=false then none else some (restG c).1:=by
  unfold restC restG
  split
  ·by_cases q:showC c.rel.name c.rel.cols=[]<;>simp [q]
  ·split
   ·by_cases q:showQ c.q=[]<;>simp [q]
   ·split
    ·by_cases q:showBt c.b=[]<;>by_cases r:c.b=[]<;>simp [q,r]
    ·split
     ·cases isNameB c.nm<;>rfl
     ·split
      ·rfl
      ·split
       ·rfl
       ·split
        ·cases isNameB c.nm<;>rfl
        ·split
         ·unfold showRow
          cases isNameB c.nm<;>cases rowB c.row<;>rfl
         ·rfl
 unfold textC wordN
 rw[if_neg (by omega),e]
 by_cases q:(restG c).2=false
 ·rw[if_pos q,if_pos q]
 ·rw[if_neg q,if_neg q]
theorem showBt_len {b:List Chg} (h:b.all goodC=true->(Lib.join (b.map chgT) [44,32]).length<=140737488355328):(showBt b).length<=140737488355328:=by
 unfold showBt
 split
 ·exact h (by assumption)
 ·simp
theorem rest_len {c:Cmd} (h:TxtB c):(restG c).1.length<=281474976710656:=by
 have hi:∀ n:Int,-9223372036854775808<=n/\n<=9223372036854775807->(Lib.itoa n).length<=21:=fun n hn=>Lib.itoa_length_le n hn.1 hn.2
 have h1:=hi _ h.id
 have h2:=hi _ h.n
 have h3:=h.nm
 have h4:=showBt_len h.join
 have h5:(showC c.rel.name c.rel.cols).length<=16384:=by
  by_cases q:chkC c.rel.name c.rel.cols=0
  ·exact (show_len q).2
  ·unfold showC
   rw[if_neg q]
   simp
 have h6:(showQ c.q).length<=16384:=by
  unfold showQ
  split
  ·rename_i q
   exact (qT_len (chkQ_right q) h.range).2.1
  ·simp
 have h7:(showRow c.row).length<=7802:=by
  unfold showRow
  split
  ·rename_i q
   exact (rowT_size q h.row).2
  ·simp
 unfold restG
 repeat' split
 all_goals
  simp only[List.length_append,List.length_cons,List.length_nil]
  omega
theorem restG_1 {c:Cmd} (h:c.kind=1):restG c=(showC c.rel.name c.rel.cols,decide (showC c.rel.name c.rel.cols≠[])):=by simp [restG,h]
theorem restG_q {c:Cmd} (h:c.kind=2∨c.kind=14∨c.kind=15):restG c=(showQ c.q,decide (showQ c.q≠[])):=by rcases h with h | h | h<;>simp [restG,h]
theorem restG_4 {c:Cmd} (h:c.kind=4):restG c=(showBt c.b,decide (showBt c.b≠[]∨c.b=[])):=by simp [restG,h]
theorem restG_n {c:Cmd} (h:c.kind=3∨c.kind=5∨c.kind=6∨c.kind=10∨c.kind=13):restG c=(c.nm,isNameB c.nm):=by rcases h with h | h | h | h | h<;>simp [restG,h]
theorem restG_i {c:Cmd} (h:c.kind=8∨c.kind=9):restG c=(Lib.itoa c.id,true):=by rcases h with h | h<;>simp [restG,h]
theorem restG_7 {c:Cmd} (h:c.kind=7):restG c=(Lib.itoa c.id++32::Lib.itoa c.n,true):=by simp [restG,h]
theorem restG_11 {c:Cmd} (h:c.kind=11):restG c=(c.nm++32::Lib.itoa c.n,isNameB c.nm):=by simp [restG,h]
theorem restG_12 {c:Cmd} (h:c.kind=12):restG c=(c.nm++showRow c.row,isNameB c.nm && rowB c.row):=by simp [restG,h]
theorem restG_0 {c:Cmd} (h:c.kind=16∨c.kind=17∨c.kind=18):restG c=([],true):=by rcases h with h | h | h<;>simp [restG,h]
end Go.Proofs.YtamjadghncnbcaaGreatDoor
