/- The frame of a law's proof over listed variables: what every law of this seat shares. -/
import Derived.Test.YtamjadghncnbcaaGreatDoorCards
import Derived.Test.YtamjadghncnbcaaGreatDoorTie
import Derived.Test.YtamjadghncnbcaaGreatDoorLaW
import Derived.WalkKit
import Derived.ProofKit
import Derived.LaidMore
import Derived.LaidHandle
import Derived.MakeChecks
import Derived.OpenShut
import Derived.ShutString
import Derived.ChangeOld
import Derived.Below
import Derived.Lib.SmallJoins
import Derived.Lib.LaidTab
import Derived.Stop.Joined
namespace Go.Proofs.YtamjadghncnbcaaGreatDoor
open Go.ChangeShapes Go.WideShapes Go.ChangeAt Go.RowKit Go.Joins
open Go.ChangeMaps (open_string shut_string)
set_option linter.unusedVariables false
theorem Tryz.own:ownKnob Tryz.prog.godebug=none:=by kernel_rfl
theorem Tryz.laidOut:laidOutB Tryz.prog=true:=by kernel_rfl
theorem trodAll_below {H:Type} {enc:TypeId × Value->H} {P:Program} (hl:laidOutB P=true) {W W':World} (hb:Below W.heap.size W W') :
 ∀ (ts:List TypeId) (vs:List Value) (ds:List (DataW H)) (ps:List MemPlace),ts.all (fun t=>P.readableRec t && decide (t<P.types.size))=true ->
  DataW.TrodAll enc P W 0 (fun _=>true) true ts vs ds ps->DataW.TrodAll enc P W' 0 (fun b=>decide (b<W.heap.size)) true ts vs ds ps:=by
 intro ts
 induction ts with
 | nil =>
   intro vs ds ps _ h
   cases vs with
   | nil =>
     cases ds with
     | nil=>exact h
     | cons _ _=>exact h
   | cons _ _ =>
     cases ds with
     | nil=>exact h
     | cons _ _=>exact h
 | cons t ts ih =>
   intro vs ds ps hall h
   simp only[List.all_cons,Bool.and_eq_true,decide_eq_true_eq] at hall
   obtain⟨v0,vs0,d0,ds0,p0,q0,rfl,rfl,rfl,h0,r0⟩:=trodAll_cons h
   refine trodAll_cons_mk (Below.trod hl hall.1.1 hall.1.2 h0 hb ?_) (ih _ _ _ hall.2 r0)
   intro x hx
   obtain⟨m,hm⟩:=h0
   exact DataW.trod_lt m _ _ _ hm x hx
def laid5:List (String × DataW Unit):=[("math/bits.deBruijn32tab",Rows.laid_math_bits_deBruijn32tab),("math/bits.deBruijn64tab",Rows.laid_math_bits_deBruijn64tab),("internal/strconv.uint64pow10",Rows.laid_internal_strconv_uint64pow10),("strconv.ErrRange",Rows.laid_strconv_ErrRange),("strconv.ErrSyntax",Rows.laid_strconv_ErrSyntax)]
theorem iface_of_trod {P:Program} {w:World} {fuel:Nat} {t:TypeId} {ms:Array (String × TypeId)} {cs:List Value} {nm:String} {d:DataW Unit} {q:List MemPlace}
 (ht:P.underlying t=some (.interface ms)) (h:DataW.trod (fun _=>()) P w 0 (fun _=>true) false fuel t cs=some (.iface nm d,q)):∃ u v,cs=[.iface u v]:=by
 cases fuel with
 | zero=>simp [DataW.trod] at h
 | succ n =>
   simp only[DataW.trod,ht] at h
   split at h<;>simp_all
theorem gTab:Tryz.prog.globalNamed "internal/strconv.uint64pow10" = some 1:=by kernel_rfl
theorem gRng:Tryz.prog.globalNamed "strconv.ErrRange" = some 6:=by kernel_rfl
theorem gSyn:Tryz.prog.globalNamed "strconv.ErrSyntax" = some 5:=by kernel_rfl
theorem tTab:(Tryz.prog.globals[1]?).map (·.type)=some 289:=by kernel_rfl
theorem tRng:(Tryz.prog.globals[6]?).map (·.type)=some 227:=by kernel_rfl
theorem tSyn:(Tryz.prog.globals[5]?).map (·.type)=some 227:=by kernel_rfl
theorem cTab:Tryz.prog.cellsOf 289=20:=by kernel_rfl
theorem cU64:Tryz.prog.cellsOf 200=1:=by kernel_rfl
theorem glob_of_laid {W:World} (h:laidMetH Tryz.prog laid5 W):Glob W:=by
 rw[MakeChecks.laidMetH_plain _ _ _ (by kernel_rfl)] at h
 obtain⟨ps,⟨g1,t1,cs1,f1,p1,q1,hg1,ht1,hv1,hd1,⟨g2,t2,cs2,f2,p2,q2,hg2,ht2,hv2,hd2,⟨g3,t3,cs3,f3,p3,q3,hg3,ht3,hv3,hd3,⟨g4,t4,cs4,f4,p4,q4,hg4,ht4,hv4,hd4,⟨g5,t5,cs5,f5,p5,q5,hg5,ht5,hv5,hd5,_,_⟩,_⟩,_⟩,_⟩,_⟩,_⟩:=h
 obtain rfl:=Option.some.inj (gTab.symm.trans hg3)
 obtain rfl:=Option.some.inj (gRng.symm.trans hg4)
 obtain rfl:=Option.some.inj (gSyn.symm.trans hg5)
 obtain rfl:=Option.some.inj (tTab.symm.trans ht3)
 obtain rfl:=Option.some.inj (tRng.symm.trans ht4)
 obtain rfl:=Option.some.inj (tSyn.symm.trans ht5)
 have g6:6+1<=W.heap.size:=by
  have hg64:Tryz.prog.globalNamed "math/bits.deBruijn64tab" = some 4:=by kernel_rfl
  obtain rfl:=Option.some.inj (hg64.symm.trans hg2)
  have k2:4<W.heap.size:=by
   unfold World.var? at hv2
   simp only[hg64,Option.bind_some] at hv2
   rcases Nat.lt_or_ge 4 W.heap.size with h | h
   ·exact h
   ·rw[Array.getElem?_eq_none h] at hv2
    simp at hv2
  have k4:6<W.heap.size:=by
   unfold World.var? at hv4
   simp only[gRng,Option.bind_some] at hv4
   rcases Nat.lt_or_ge 6 W.heap.size with h | h
   ·exact h
   ·rw[Array.getElem?_eq_none h] at hv4
    simp at hv4
  omega
 obtain⟨u4,w4,e4⟩:=iface_of_trod (ms:=#[("Error",230)]) Tryz.underlying227 (show DataW.trod _ _ _ _ _ _ _ _ _=some (.iface _ _,_) from hd4)
 obtain⟨u5,w5,e5⟩:=iface_of_trod (ms:=#[("Error",230)]) Tryz.underlying227 (show DataW.trod _ _ _ _ _ _ _ _ _=some (.iface _ _,_) from hd5)
 have f4:cs4=#[.iface u4 w4]:=by cases cs4;simp_all
 have f5:cs5=#[.iface u5 w5]:=by cases cs5;simp_all
 have et:(Rows.laid_internal_strconv_uint64pow10:DataW Unit)=Lib.tabData .u64 Lib.pow10Tab:=by kernel_rfl
 rw[et] at hd3
 have hcs:=Lib.cells_of_tab Tryz.underlying289 Tryz.underlying200 cU64 cTab hd3
 refine⟨⟨u5,w5,by rw[hv5,f5]⟩,⟨u4,w4,by rw[hv4,f4]⟩,?_,g6⟩
 unfold Lib.TabIs
 rw[hv3,<-hcs]
set_option maxRecDepth 100000 in
theorem door_shaped (os:Os) (args:Array Value):((World.doorLaid Tryz.prog 100 os).forCall (fun _ _=>0) ⟨#[],args,[]⟩).Shaped Tryz.prog :=
 World.shaped_of_RefB (by kernel_rfl) (by kernel_rfl)
theorem text_small {H:Type} {ts:List TypeId} {ds:List (DataW H)} (h:(DataW.weightsEach Tryz.prog ts ds).all (· <= reachBytes)=true) {j:Nat} {t:ByteArray} (ht:ts[j]? = some 9)
 (hd:ds[j]? = some (.lit (.string t.data.toList))):t.size<=140737488351232:=by
 have:=List.all_eq_true.1 h _ (DataW.weights_mem_each ht hd t.data.toList.length (by simp [DataW.weights]))
 have:=of_decide_eq_true this
 simpa [reachBytes] using this
end Go.Proofs.YtamjadghncnbcaaGreatDoor
