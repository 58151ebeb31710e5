/- A short name. -/
import Derived.Lib.Hide
namespace Go.Proofs.YtgopfpjinohncaaGreatDoor
open Go.RowKit
theorem Fx{p:Prop}(h:p):Hid p:=Lib.hid h
theorem Fy{n:Nat}{w:World}:Below n w w:=Below.refl _ _
theorem Fz{n:Nat}:0<=n:=Nat.zero_le _
theorem FA{n:Nat}:n<=n:=Nat.le_refl _
theorem FC{α:Type}{l:List α}{i:Nat}{a:α}(h:l[i]? = some a):a∈l:=List.mem_of_getElem? h
theorem FD{α:Type}{l:List α}{i:Nat}(h:i<l.length):l[i]? = some (l[i]):=List.getElem?_eq_getElem h
theorem FE{α:Type}{l:List α}{i:Nat}{a:α}(h:l[i]? = some a):∃ h:i<l.length,l[i]=a:=List.getElem?_eq_some_iff.1 h
theorem FF:(∀{α:Type}(l:List α)(i:Nat),l.toArray[i]? = l[i]?)/\(∀{α:Type}(a:α)(l:List α),(a::l)[0]? = some a)/\∀{α:Type}(a:α)(l:List α)(i:Nat),(a::l)[i+1]? = l[i]?:=⟨fun _ _=>List.getElem?_toArray,fun _ _=>List.getElem?_cons_zero,fun _ _ _=>List.getElem?_cons_succ⟩
theorem FG:(∀{α:Type}(l:List α)(i:Nat)(a:α),l.toArray.setIfInBounds i a=(l.set i a).toArray)/\(∀{α:Type}(a b:α)(l:List α)(i:Nat),(a::l).set (i+1) b=a::l.set i b)/\∀{α:Type}(a b:α)(l:List α),(a::l).set 0 b=b::l:=⟨fun _ _ _=>List.setIfInBounds_toArray _ _ _,fun _ _ _ _=>List.set_cons_succ,fun _ _ _=>List.set_cons_zero⟩
