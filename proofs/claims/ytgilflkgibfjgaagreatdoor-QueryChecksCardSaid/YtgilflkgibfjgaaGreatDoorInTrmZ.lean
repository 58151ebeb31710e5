/- slices.IndexFunc, ContainsFunc at osier/api.Term, walked, told by the place (printed by idxn.py). -/
import Derived.Test.YtgilflkgibfjgaaGreatDoorGb
import Derived.Shelf.Abstract
namespace Go.Proofs.YtgilflkgibfjgaaGreatDoor
open Go.RowKit
set_option linter.unusedVariables false

set_option maxHeartbeats 4000000 in
set_option maxRecDepth 100000 in
theorem indexN_Trm (g : Nat) (lb : Array Value) (eg : ∀ args w, (callFunc g args).run Tryz.prog w = .ok (.enter g args) w) (p : Nat → Bool) (w : World) (v : Value) (xs : List (List Value)) (h : RowAt w v 4 xs) (hl : ∀ x ∈ xs, x.length = 4)
    (hf : ∀ (W : World) (k : Nat) (x : List Value), Below w.heap.size w W → xs[k]? = some x → Calls Tryz.prog g (#[.agg x.toArray] ++ lb) W fun e W' => e = .returned (.bool (p k)) ∧ Below W.heap.size W W') :
    Calls Tryz.prog 110 #[v, .func (.func g) #[] lb] w fun e w' => (∃ q : Int, e = .returned (.int .i64 q) ∧ decide (0 ≤ q) = (List.range xs.length).any p) ∧ Below w.heap.size w w' := by
  obtain ⟨ad, cap, rfl, hnc, hcm⟩ := h.form
  have hln := h.len
  have HR := Lib.hid h
  have HL := Lib.hid hl
  have HF := Lib.hid hf
  unfold maxLen at hcm
  generalize hn : xs.length = n at *
  have HN := Lib.hid hn
  clear h hl hf hn
  go_enter Tryz.func110, Tryz.ntmps110
  go_wp2_with fail
  go_loopw [5, 8] (fun _ i wr => ∃ k : Nat, k ≤ n ∧ i = .int .i64 k ∧ Hid (Below w.heap.size w wr) ∧ Hid (∀ j, j < k → p j = false)) (fun _ i _ => n - (intOf i).toNat)
  case atStart => exact ⟨0, Nat.zero_le _, rfl, Lib.hid (Below.refl _ _), Lib.hid (fun j hj => by omega)⟩
  case round =>
    obtain ⟨k, hk, rfl, HB, HP⟩ := hrel
    by_cases hlt : k < n
    · obtain ⟨x, hx⟩ : ∃ x, xs[k]? = some x := ⟨xs[k]'(by rw [HN.out]; exact hlt), List.getElem?_eq_getElem (by rw [HN.out]; exact hlt)⟩
      have hm : x ∈ xs := List.mem_of_getElem? hx
      obtain ⟨b, off, cap', hv, _, _, hbl, hce⟩ := (HR.out.keep HB.out).get hx
      rw [HN.out] at hv
      simp only [Value.slice.injEq, true_and] at hv
      obtain ⟨rfl, rfl⟩ := hv
      obtain ⟨e0, e1, e2, e3, rfl⟩ := len4 (HL.out x hm)
      have q0 := hce 0 e0 rfl
      have q1 := hce 1 e1 rfl
      have q2 := hce 2 e2 rfl
      have q3 := hce 3 e3 rfl
      simp only [Nat.add_zero] at q0 q1 q2 q3
      have hcall := HF.out wr k _ HB.out hx
      clear hce hm hx
      cases hq : p k with
      | true =>
        rw [hq] at hcall
        have HC := Lib.hid hcall
        have HQ := Lib.hid hq
        clear hcall hq
        go_wp2_with fail
        refine HC.out.mono ?_
        rintro e w' ⟨rfl, hb'⟩
        have HB' := Lib.hid hb'
        clear hb'
        go_wp2_with fail
        go_ret
        refine ⟨⟨k, rfl, ?_⟩, HB.out.trans (HB'.out.mono HB.out.size)⟩
        rw [decide_eq_true (Int.natCast_nonneg k)]
        exact (List.any_eq_true.2 ⟨k, List.mem_range.2 hlt, HQ.out⟩).symm
      | false =>
        rw [hq] at hcall
        have HC := Lib.hid hcall
        have HQ := Lib.hid hq
        clear hcall hq
        go_wp2_with fail
        refine HC.out.mono ?_
        rintro e w' ⟨rfl, hb'⟩
        have HB' := Lib.hid hb'
        clear hb'
        go_wp2_with fail
        go_roundw
        case rel =>
          refine ⟨k + 1, by omega, by go_num, Lib.hid (HB.out.trans (HB'.out.mono HB.out.size)), Lib.hid (fun j hj => ?_)⟩
          rcases Nat.lt_or_ge j k with h1 | h1
          · exact HP.out j h1
          · obtain rfl : j = k := by omega
            exact HQ.out
        case measure => simp [intOf]; omega
    · obtain rfl : k = n := by omega
      go_wp2_with fail
      go_ret
      refine ⟨⟨-1, rfl, ?_⟩, HB.out⟩
      rw [show decide ((0 : Int) ≤ -1) = false from by decide]
      refine (List.any_eq_false.2 fun j hj => ?_).symm
      rw [HP.out j (List.mem_range.1 hj)]
      decide

set_option maxHeartbeats 4000000 in
set_option maxRecDepth 100000 in
theorem containsN_Trm (g : Nat) (lb : Array Value) (eg : ∀ args w, (callFunc g args).run Tryz.prog w = .ok (.enter g args) w) (p : Nat → Bool) (w : World) (v : Value) (xs : List (List Value)) (h : RowAt w v 4 xs) (hl : ∀ x ∈ xs, x.length = 4)
    (hf : ∀ (W : World) (k : Nat) (x : List Value), Below w.heap.size w W → xs[k]? = some x → Calls Tryz.prog g (#[.agg x.toArray] ++ lb) W fun e W' => e = .returned (.bool (p k)) ∧ Below W.heap.size W W') :
    Calls Tryz.prog 60 #[v, .func (.func g) #[] lb] w fun e w' => e = .returned (.bool ((List.range xs.length).any p)) ∧ Below w.heap.size w w' := by
  have HI := Lib.hid (indexN_Trm g lb eg p w v xs h hl hf)
  clear h hl hf
  generalize (List.range xs.length).any p = R at *
  go_enter Tryz.func60, Tryz.ntmps60
  go_wp2_with fail
  refine HI.out.mono ?_
  rintro e w' ⟨⟨q, rfl, hq⟩, hb'⟩
  have HB' := Lib.hid hb'
  clear hb'
  go_wp2_with fail
  go_ret
  exact ⟨by first | rfl | simp, HB'.out⟩
end Go.Proofs.YtgilflkgibfjgaaGreatDoor
