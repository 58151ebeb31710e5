/- The frame of a law's proof: what every law of this seat shares. -/
import Derived.Test.YtppoakomeaamhaaRows
import Derived.WalkKit
import Derived.ProofKit
import Derived.OpenShut
import Derived.ShutString
import Derived.ChangeOld
import Derived.Below
namespace Go.Proofs.Ytppoakomeaamhaa
open Go.ChangeShapes Go.WideShapes Go.ChangeAt Go.RowKit
open Go.ChangeMaps (open_string shut_string)

theorem Try.own : ownKnob Try.prog.godebug = none := by kernel_rfl
theorem Try.laidOut : laidOutB Try.prog = true := by kernel_rfl

/-- All arguments read behind a call that wrote nothing old as they read before it. -/
theorem trodAll_below {H : Type} {enc : TypeId × Value → H} {P : Program} (hl : laidOutB P = true) {W W' : World} (hb : Below W.heap.size W W') :
    ∀ (ts : List TypeId) (vs : List Value) (ds : List (DataW H)) (ps : List MemPlace), ts.all (fun t => P.readableRec t && decide (t < P.types.size)) = true →
      DataW.TrodAll enc P W 0 (fun _ => true) true ts vs ds ps → DataW.TrodAll enc P W' 0 (fun b => decide (b < W.heap.size)) true ts vs ds ps := by
  intro ts
  induction ts with
  | nil =>
    intro vs ds ps _ h
    cases vs with
    | nil =>
      cases ds with
      | nil => exact h
      | cons _ _ => exact h
    | cons _ _ =>
      cases ds with
      | nil => exact h
      | cons _ _ => exact h
  | cons t ts ih =>
    intro vs ds ps hall h
    simp only [List.all_cons, Bool.and_eq_true, decide_eq_true_eq] at hall
    obtain ⟨v0, vs0, d0, ds0, p0, q0, rfl, rfl, rfl, h0, r0⟩ := trodAll_cons h
    refine trodAll_cons_mk (Below.trod hl hall.1.1 hall.1.2 h0 hb ?_) (ih _ _ _ hall.2 r0)
    intro x hx
    obtain ⟨m, hm⟩ := h0
    exact DataW.trod_lt m _ _ _ hm x hx
end Go.Proofs.Ytppoakomeaamhaa
