/- A command's text, part by part; plainly. A command's text as the document makes it, form by form; plainly. -/
import Derived.Test.YtamjadghncnbcaaGreatDoorDaT
import Derived.Test.YtamjadghncnbcaaGreatDoorKfT
import Derived.Test.YtamjadghncnbcaaGreatDoorDrT
namespace Go.Proofs.YtamjadghncnbcaaGreatDoor
open Go.RowKit
set_option linter.unusedVariables false
structure TxtB (c:Cmd):Prop where
 rname:c.rel.name.length<=140737488351232
 cols:∀ x∈c.rel.cols,x.x.length<=140737488351232
 qname:c.q.name.length<=140737488351232
 heads:∀ s∈c.q.head,s.length<=140737488351232
 atoms:∀ a∈c.q.atoms,a.rel.length<=140737488351232/\∀ t∈a.ts,t.x.length<=140737488351232
 range:RangeQ c.q
 batch:RangeB c.b
 brel:∀ x∈c.b,x.rel.length<=140737488351232
 nb:c.b.length<=1048576
 join:c.b.all goodC=true->(Lib.join (c.b.map chgT) [44,32]).length<=140737488355328
 nm:c.nm.length<=140737488351232
 id : -9223372036854775808<=c.id/\c.id<=9223372036854775807
 n : -9223372036854775808<=c.n/\c.n<=9223372036854775807
 row:∀ u∈c.row,RangeV u
def restG (c:Cmd):List UInt8 × Bool :=
 if c.kind=1 then (showC c.rel.name c.rel.cols,decide (showC c.rel.name c.rel.cols≠[]))
 else if c.kind=2∨c.kind=14∨c.kind=15 then (showQ c.q,decide (showQ c.q≠[]))
 else if c.kind=4 then (showBt c.b,decide (showBt c.b≠[]∨c.b=[]))
 else if c.kind=3∨c.kind=5∨c.kind=6∨c.kind=10∨c.kind=13 then (c.nm,isNameB c.nm)
 else if c.kind=8∨c.kind=9 then (Lib.itoa c.id,true)
 else if c.kind=7 then (Lib.itoa c.id++32::Lib.itoa c.n,true)
 else if c.kind=11 then (c.nm++32::Lib.itoa c.n,isNameB c.nm)
 else if c.kind=12 then (c.nm++showRow c.row,isNameB c.nm && rowB c.row)
 else ([],true)
def wordN (k:Int):List UInt8:=wordsC.getD (k - 1).toNat []
theorem wordN_len (k:Int):(wordN k).length<=7:=by
 unfold wordN
 generalize (k - 1).toNat=n
 rcases Nat.lt_or_ge n 18 with h | h
 ·have hall:∀ m<18,(wordsC.getD m []).length<=7:=by decide
  exact hall n h
 ·rw[List.getD_eq_getElem?_getD,List.getElem?_eq_none (by show 18<=n;exact h)]
  simp
theorem wordA_at {k:Nat} (h1:1<=k) (h2:k<=18):wordsA[k]? = some (.string ⟨(wordN (k:Int)).toArray⟩):=by
 rcases (by omega:k=1∨k=2∨k=3∨k=4∨k=5∨k=6∨k=7∨k=8∨k=9∨k=10∨k=11∨k=12∨k=13∨k=14∨k=15∨k=16∨k=17∨k=18) with rfl | rfl | rfl | rfl | rfl | rfl | rfl | rfl | rfl | rfl | rfl | rfl | rfl | rfl | rfl | rfl | rfl | rfl<;>rfl
theorem textC_out {c:Cmd} (h:¬ (1<=c.kind/\c.kind<=18)):textC c=[]:=by
 unfold textC
 rw[if_pos (by omega)]
theorem textC_rest {c:Cmd} (h1:1<=c.kind) (h2:c.kind<=18):textC c=if (restG c).2=false then [] else if (restG c).1=[] then wordN c.kind else wordN c.kind++32::(restG c).1:=by
 have e:restC c=if (restG c).2=false then none else some (restG c).1:=by
  unfold restC restG
  split
  ·by_cases q:showC c.rel.name c.rel.cols=[]<;>simp [q]
  ·split
   ·by_cases q:showQ c.q=[]<;>simp [q]
   ·split
    ·by_cases q:showBt c.b=[]<;>by_cases r:c.b=[]<;>simp [q,r]
    ·split
     ·cases isNameB c.nm<;>rfl
     ·split
      ·rfl
      ·split
       ·rfl
       ·split
        ·cases isNameB c.nm<;>rfl
        ·split
         ·unfold showRow
          cases isNameB c.nm<;>cases rowB c.row<;>rfl
         ·rfl
 unfold textC wordN
 rw[if_neg (by omega),e]
 by_cases q:(restG c).2=false
 ·rw[if_pos q,if_pos q]
 ·rw[if_neg q,if_neg q]
theorem showBt_len {b:List Chg} (h:b.all goodC=true->(Lib.join (b.map chgT) [44,32]).length<=140737488355328):(showBt b).length<=140737488355328:=by
 unfold showBt
 split
 ·exact h (by assumption)
 ·simp
theorem rest_len {c:Cmd} (h:TxtB c):(restG c).1.length<=281474976710656:=by
 have hi:∀ n:Int,-9223372036854775808<=n/\n<=9223372036854775807->(Lib.itoa n).length<=21:=fun n hn=>Lib.itoa_length_le n hn.1 hn.2
 have h1:=hi _ h.id
 have h2:=hi _ h.n
 have h3:=h.nm
 have h4:=showBt_len h.join
 have h5:(showC c.rel.name c.rel.cols).length<=16384:=by
  by_cases q:chkC c.rel.name c.rel.cols=0
  ·exact (show_len q).2
  ·unfold showC
   rw[if_neg q]
   simp
 have h6:(showQ c.q).length<=16384:=by
  unfold showQ
  split
  ·rename_i q
   exact (qT_len (chkQ_right q) h.range).2.1
  ·simp
 have h7:(showRow c.row).length<=7802:=by
  unfold showRow
  split
  ·rename_i q
   exact (rowT_size q h.row).2
  ·simp
 unfold restG
 repeat' split
 all_goals
  simp only[List.length_append,List.length_cons,List.length_nil]
  omega
theorem restG_1 {c:Cmd} (h:c.kind=1):restG c=(showC c.rel.name c.rel.cols,decide (showC c.rel.name c.rel.cols≠[])):=by simp [restG,h]
theorem restG_q {c:Cmd} (h:c.kind=2∨c.kind=14∨c.kind=15):restG c=(showQ c.q,decide (showQ c.q≠[])):=by rcases h with h | h | h<;>simp [restG,h]
theorem restG_4 {c:Cmd} (h:c.kind=4):restG c=(showBt c.b,decide (showBt c.b≠[]∨c.b=[])):=by simp [restG,h]
theorem restG_n {c:Cmd} (h:c.kind=3∨c.kind=5∨c.kind=6∨c.kind=10∨c.kind=13):restG c=(c.nm,isNameB c.nm):=by rcases h with h | h | h | h | h<;>simp [restG,h]
theorem restG_i {c:Cmd} (h:c.kind=8∨c.kind=9):restG c=(Lib.itoa c.id,true):=by rcases h with h | h<;>simp [restG,h]
theorem restG_7 {c:Cmd} (h:c.kind=7):restG c=(Lib.itoa c.id++32::Lib.itoa c.n,true):=by simp [restG,h]
theorem restG_11 {c:Cmd} (h:c.kind=11):restG c=(c.nm++32::Lib.itoa c.n,isNameB c.nm):=by simp [restG,h]
theorem restG_12 {c:Cmd} (h:c.kind=12):restG c=(c.nm++showRow c.row,isNameB c.nm && rowB c.row):=by simp [restG,h]
theorem restG_0 {c:Cmd} (h:c.kind=16∨c.kind=17∨c.kind=18):restG c=([],true):=by rcases h with h | h | h<;>simp [restG,h]
def partG (f:UInt8) (c:Cmd):List UInt8 :=
 if f=100 then showC c.rel.name c.rel.cols else if f=113 then showQ c.q else if f=98 then showBt c.b
 else if f=110 then (if isNameB c.nm=true then c.nm else []) else if f=114 then showRow c.row
 else if f=105 then Lib.itoa c.id else if f=107 then Lib.itoa c.n else []
def gapG (f:UInt8):List UInt8:=if f=114 then [] else [32]
def textG (c:Cmd):List UInt8->List UInt8->List UInt8
 | [],s=>s
 | f::r,s=>if f=98/\c.b=[] then s else if partG f c=[] then [] else textG c r (s++(gapG f++partG f c))
def formN (k:Int):List UInt8:=formsC.getD (k - 1).toNat []
theorem formN_len (k:Int):(formN k).length<=2:=by
 unfold formN
 generalize (k - 1).toNat=n
 rcases Nat.lt_or_ge n 18 with h | h
 ·have hall:∀ m<18,(formsC.getD m []).length<=2:=by decide
  exact hall n h
 ·rw[List.getD_eq_getElem?_getD,List.getElem?_eq_none (by show 18<=n;exact h)]
  simp
theorem itoa_ne (n:Int):Lib.itoa n≠[]:=by
 rcases itoa_cases n with ⟨u,_,e⟩ | ⟨u,_,_,e⟩
 ·rw[e];exact dec_ne u
 ·rw[e];simp
theorem name_ne {x:List UInt8} (h:isNameB x=true):x≠[]:=by
 unfold isNameB at h
 simp only[decide_eq_true_eq] at h
 exact h.1
theorem textG_eq {c:Cmd} (h1:1<=c.kind) (h2:c.kind<=18):textG c (formN c.kind) (wordN c.kind)=textC c:=by
 rw[textC_rest h1 h2]
 rcases (by omega:c.kind=1∨(c.kind=2∨c.kind=14∨c.kind=15)∨c.kind=4∨(c.kind=3∨c.kind=5∨c.kind=6∨c.kind=10∨c.kind=13)∨(c.kind=8∨c.kind=9)∨c.kind=7∨c.kind=11∨c.kind=12∨(c.kind=16∨c.kind=17∨c.kind=18)) with h | h | h | h | h | h | h | h | h
 ·have ef:formN c.kind=[100]:=by rw[h];rfl
  rw[restG_1 h,ef]
  by_cases q:showC c.rel.name c.rel.cols=[]<;>simp [textG,partG,gapG,q]
 ·have ef:formN c.kind=[113]:=by rcases h with h | h | h<;>rw[h]<;>rfl
  rw[restG_q h,ef]
  by_cases q:showQ c.q=[]<;>simp [textG,partG,gapG,q]
 ·have ef:formN c.kind=[98]:=by rw[h];rfl
  rw[restG_4 h,ef]
  by_cases r:c.b=[]
  ·have e0:showBt ([]:List Chg)=[]:=by simp [showBt,Lib.join]
   simp [textG,r,e0]
  ·by_cases q:showBt c.b=[]<;>simp [textG,partG,gapG,q,r]
 ·have ef:formN c.kind=[110]:=by rcases h with h | h | h | h | h<;>rw[h]<;>rfl
  rw[restG_n h,ef]
  cases q:isNameB c.nm with
  | false=>simp [textG,partG,q]
  | true=>have:=name_ne q;simp [textG,partG,gapG,q,this]
 ·have ef:formN c.kind=[105]:=by rcases h with h | h<;>rw[h]<;>rfl
  rw[restG_i h,ef]
  have:=itoa_ne c.id
  simp [textG,partG,gapG,this]
 ·have ef:formN c.kind=[105,107]:=by rw[h];rfl
  rw[restG_7 h,ef]
  have:=itoa_ne c.id
  have:=itoa_ne c.n
  simp [textG,partG,gapG, *]
 ·have ef:formN c.kind=[110,107]:=by rw[h];rfl
  rw[restG_11 h,ef]
  have:=itoa_ne c.n
  cases q:isNameB c.nm with
  | false=>simp [textG,partG,q]
  | true=>have:=name_ne q;simp [textG,partG,gapG, *]
 ·have ef:formN c.kind=[110,114]:=by rw[h];rfl
  rw[restG_12 h,ef]
  cases q:isNameB c.nm with
  | false=>simp [textG,partG,q]
  | true =>
    have:=name_ne q
    cases r:rowB c.row with
    | false =>
      have e0:showRow c.row=[]:=by simp [showRow,r]
      simp [textG,partG,q,this,e0]
    | true =>
      have e0:showRow c.row=rowT0 c.row:=by simp [showRow,r]
      have e1:rowT0 c.row≠[]:=by simp [rowT0]
      simp [textG,partG,gapG,q,this,e0,e1]
 ·have ef:formN c.kind=[]:=by rcases h with h | h | h<;>rw[h]<;>rfl
  rw[restG_0 h,ef]
  simp [textG]
theorem part_len {c:Cmd} (h:TxtB c) (f:UInt8):(partG f c).length<=140737488355328:=by
 have h1:=Lib.itoa_length_le c.id h.id.1 h.id.2
 have h2:=Lib.itoa_length_le c.n h.n.1 h.n.2
 have h3:=h.nm
 have h4:=showBt_len h.join
 have h5:(showC c.rel.name c.rel.cols).length<=16384:=by
  by_cases q:chkC c.rel.name c.rel.cols=0
  ·exact (show_len q).2
  ·unfold showC
   rw[if_neg q]
   simp
 have h6:(showQ c.q).length<=16384:=by
  unfold showQ
  split
  ·rename_i q
   exact (qT_len (chkQ_right q) h.range).2.1
  ·simp
 have h7:(showRow c.row).length<=7802:=by
  unfold showRow
  split
  ·rename_i q
   exact (rowT_size q h.row).2
  ·simp
 unfold partG
 repeat' split
 all_goals first
  | omega
  | (simp only[List.length_nil];omega)
end Go.Proofs.YtamjadghncnbcaaGreatDoor
