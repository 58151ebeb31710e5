/- reader.Some at api.Change, walked: its slice and the closure's batch lie apart. change.Parse, walked. osierlaw10.awake, walked. A batch's text, read back: plainly. -/
import Derived.Test.YtamjadghncnbcaaGreatDoorDpT
import Derived.Test.YtamjadghncnbcaaGreatDoorGoT
import Derived.Test.YtamjadghncnbcaaGreatDoorRxT
import Derived.Test.YtamjadghncnbcaaGreatDoorBcT
import Derived.KernelRfl
namespace Go.Proofs.YtamjadghncnbcaaGreatDoor
open Go.RowKit
set_option linter.unusedVariables false
section
variable {B B' n b r ov : Nat} {w w' : World} {bv : Value} {xs : List ChP} {Ts : List TypeId}
theorem JB.mt (h:JB B n b r ov w bv xs) (hm:MT B' Ts w w') (h1:80 ∉ Ts) (h2:3 ∉ Ts) (h3:30 ∉ Ts) (h4:51 ∉ Ts) (h5:69 ∉ Ts):JB B n b r ov w' bv xs :=
 ⟨Blk.mt h.1 hm h1,h.2.1.mt hm h2,h.2.2.1.mt hm h3,h.2.2.2.mt hm h4 h5⟩
theorem JB.keep (h:JB B n b r ov w bv xs) (hb:Below w.heap.size w w'):JB B n b r ov w' bv xs :=
 h.mt (MT.ofBelow (B:=0) (Ts:=[]) hb) (by simp) (by simp) (by simp) (by simp) (by simp)
theorem JB.lt (h:JB B n b r ov w bv xs):∀ k,bv.ownBlock=some k->B<=k/\k<w.heap.size:=by
 obtain⟨_,_,_,rows,h1,_⟩:=h
 exact fun k hk=>World.ownsRow.lt h1 k hk
theorem JB.grown {base size m:Nat} {v:Value} {ys:List Value} (h:JB B n b r ov w bv xs) (hg:w.grownBy w' v.ownBlock) (ho:w.ownsRow base 51 size v m ys) (hap:∀ k,v.ownBlock=some k->bv.ownBlock≠some k):JB B n b r ov w' bv xs:=by
 obtain⟨h1,h2,h3,rows,h4,h5⟩:=h
 have m1:MT 0 [51] w w':=(MT.refl w).grown hg ho (by simp) (Nat.zero_le _)
 exact⟨Blk.mt h1 m1 (by decide),h2.mt m1 (by decide),h3.mt m1 (by decide),rows,((Mod.refl (fun k=>v.ownBlock=some k) w).grown hg (fun k hk _=>hk)).ownsRow h4 (fun k hk e=>hap k e hk),h5.mono fun q a hh=>hh.mt m1 (by decide)⟩
end
theorem joinC_len {b:List Chg} (hb:∀ c∈b,goodC c=true) (hr:RangeB b):(Lib.join (b.map chgT) [44,32]).length<=7821 * b.length:=by
 have h1:=join_len (b:=7819) (b.map chgT) (fun x hx=>by
  obtain⟨c,hc,rfl⟩:=List.mem_map.1 hx
  exact chgT_size (hb c hc) (hr c hc))
 rw[List.length_map] at h1
 omega
end Go.Proofs.YtamjadghncnbcaaGreatDoor
