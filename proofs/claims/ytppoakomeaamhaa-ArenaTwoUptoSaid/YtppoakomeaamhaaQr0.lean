/- A region that draws its order and only reads, within a round of a range over a function: no program in sight. -/
import Derived.Sort.QuietIn
import Derived.RangeFuncCalls
namespace Go.Proofs.Ytppoakomeaamhaa
open Go.RowKit
section
variable {F : Fence} {n : Nat} {P : Program} {Q : Exit → Act → World → Prop} {l : Nat}

def noDefer (o : Oper) : Bool := match o.op with
  | .defer _ => false
  | _ => true
theorem noDefer_ne {o : Oper} (h : noDefer o = true) : ∀ c, o.op ≠ .defer c := by
  intro c e
  unfold noDefer at h
  rw [e] at h
  cases h

theorem wpIn_round {o : Oper} {a : Act} {w : World} {K : Act → World → Prop} (hro : F.round = none) (h : noDefer o = true) (hh : o.wpIn F n P a w K Q) : o.wpIn (F.inRound l) n P a w K Q := by
  unfold Oper.wpIn at hh ⊢
  refine ⟨hh.1, ?_⟩
  rw [Fence.inRound_round, Oper.semAt_some l _ _ (noDefer_ne h)]
  have h2 := hh.2
  rw [hro, Oper.semAt_none] at h2
  exact h2

theorem wpAny_round {md : Region.Mode} {ops : Array Oper} (hro : F.round = none) (hnd : ∀ (i : Nat) (o : Oper), ops[i]? = some o → noDefer o = true) : ∀ (fuel : Nat) (listed : Array Bool) (a : Act) (w : World), wpAnyIn F n P md ops Q fuel listed a w → wpAnyIn (F.inRound l) n P md ops Q fuel listed a w := by
  intro fuel
  induction fuel with
  | zero => intro listed a w h; exact h
  | succ k ih =>
    intro listed a w h
    refine ⟨h.1, fun i hi => ?_⟩
    have h2 := h.2 i hi
    unfold wpOpIn at h2 ⊢
    cases ho : ops[i]? with
    | none =>
      rw [ho] at h2
      exact ih _ _ _ h2
    | some o =>
      rw [ho] at h2
      simp only at h2 ⊢
      split
      · rename_i hw
        rw [if_pos hw] at h2
        exact wpIn_round hro (hnd i o ho) (Oper.wpIn_mono (fun a w => ih _ a w) h2)
      · rename_i hw
        rw [if_neg hw] at h2
        exact ⟨h2.1, ih _ _ _ h2.2⟩

theorem quiet_round {id : Nat} {a : Act} {w : World} {ops : List Oper} (hro : F.round = none) (hm : P.follows .mixedOrders = true) (hB : Region.lexB .any ops.toArray = true) (hnd : ops.all noDefer = true)
    (h : wpQuietIn F n P ops.toArray (fun w' => ∃ k, w' = w.drewN k) (fun a' => ∀ w', (∃ k, w' = w.drewN k) → Q .normal a' w') ops a) : (Code.region id ops.toArray true).wpIn (F.inRound l) n P Q a w := by
  have hb := hB
  simp only [Region.lexB, Bool.and_eq_true] at hb
  refine wpIn_region_any hm (wpAny_round hro (fun i o ho => ?_) _ _ _ _ (wpAnyIn_of_quiet (C := fun w' => ∃ k, w' = w.drewN k) (Q := fun a' => ∀ w', (∃ k, w' = w.drewN k) → Q .normal a' w') hro (fun _ w' hw' g => g w' hw') _ _ _ _ ⟨1, rfl⟩ ?_))
  · have : o ∈ ops := by
      rw [List.getElem?_toArray] at ho
      exact List.mem_of_getElem? ho
    exact List.all_eq_true.1 hnd o this
  · have h2 := wpAnyQIn_lex (F := F) (n := n) (C := fun w' => ∃ k, w' = w.drewN k) (md := .any) hb.1 ops 0 (Array.replicate ops.toArray.size false) a (by simp) (by simpa using hb.2) h
    simpa using h2
end
end Go.Proofs.Ytppoakomeaamhaa
