/- Rows of the call's own: taken apart, one set. -/
import Derived.Test.YtamjadghncnbcaaGreatDoorGmO
import Derived.Test.YtamjadghncnbcaaGreatDoorGaO
namespace Go.Proofs.YtamjadghncnbcaaGreatDoor
open Go.RowKit
set_option linter.unusedVariables false
theorem split_rows (sz:Nat):∀ (n:Nat) (xs:List Value),xs.length=n * sz->∃ rows:List (List Value),rows.length=n/\(∀ x∈rows,x.length=sz)/\rows.flatten=xs
 | 0,xs,h=>⟨[],rfl,by simp,by simp at h;simp [h]⟩
 | n+1,xs,h=>by
   rw[Nat.succ_mul] at h
   obtain⟨rows,h1,h2,h3⟩:=split_rows sz n (xs.drop sz) (by rw[List.length_drop];omega)
   refine⟨xs.take sz::rows,by simp [h1],?_,by rw[List.flatten_cons,h3,List.take_append_drop]⟩
   intro x hx
   rcases List.mem_cons.1 hx with rfl | hx
   ·rw[List.length_take]
    omega
   ·exact h2 x hx
theorem set_take {α:Type} {l:List α} {k:Nat} {x:α} (hk:k<l.length):(l.set k x).take (k+1)=l.take k++[x]:=by
 rw[List.take_add_one,List.take_set_of_le (Nat.le_refl _),List.getElem?_set_self hk]
 rfl
theorem own_set3 {w:World} {g k n cap base:Nat} {e:TypeId} {rows:List (List Value)} {a b c:Value} (hown:w.ownsRow base e 3 (.slice (some ⟨g,0,none⟩) n cap) n rows.flatten) (hl:∀ x∈rows,x.length=3) (hn:rows.length=n) (hk:k<n)
 (ha:a.oneCell'=true) (hb:b.oneCell'=true) (hc:c.oneCell'=true) :
 (((w.setCell ⟨g,k * 3,none⟩ a).setCell ⟨g,k * 3+1,none⟩ b).setCell ⟨g,k * 3+2,none⟩ c).ownsRow base e 3 (.slice (some ⟨g,0,none⟩) n cap) n (rows.set k [a,b,c]).flatten /\
 Mod (fun j=>j=g) w (((w.setCell ⟨g,k * 3,none⟩ a).setCell ⟨g,k * 3+1,none⟩ b).setCell ⟨g,k * 3+2,none⟩ c):=by
 have h:=own_setCells (cells:=[a,b,c]) hown hl hn hk (by
  intro v hv
  simp only[List.mem_cons,List.not_mem_nil,or_false] at hv
  rcases hv with rfl | rfl | rfl
  ·exact ha
  ·exact hb
  ·exact hc)
 have e:w.setCells g (k * ([a,b,c]:List Value).length) [a,b,c]=((w.setCell ⟨g,k * 3,none⟩ a).setCell ⟨g,k * 3+1,none⟩ b).setCell ⟨g,k * 3+2,none⟩ c:=by
  simp [World.setCells]
 rw[e] at h
 exact⟨h.1,h.2.1⟩
theorem mt_own {w w':World} {g n cap base sz:Nat} {e:TypeId} {xs:List Value} {Ts:List TypeId} (hm:Mod (fun j=>j=g) w w') (ho:w.ownsRow base e sz (.slice (some ⟨g,0,none⟩) n cap) n xs) (he:e∈Ts):MT 0 Ts w w':=by
 rcases ho.2 with ⟨h0,_⟩ | ⟨g',cap',cur,hv,_,hh,_⟩
 ·simp at h0
 ·simp only[Value.slice.injEq,Option.some.injEq,Addr.mk.injEq,and_true,true_and] at hv
  obtain⟨rfl,rfl⟩:=hv
  exact MT.ofMod hm hh he (Nat.zero_le _)
theorem set_all {α:Type} {l:List α} {p:α->Prop} {k:Nat} {x:α} (h:∀ y∈l,p y) (hx:p x):∀ y∈l.set k x,p y:=by
 intro y hy
 rcases List.mem_or_eq_of_mem_set hy with h1 | rfl
 ·exact h y h1
 ·exact hx
end Go.Proofs.YtamjadghncnbcaaGreatDoor
