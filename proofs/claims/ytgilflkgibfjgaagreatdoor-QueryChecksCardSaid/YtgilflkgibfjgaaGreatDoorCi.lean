/- change.fits, walked. slices.IndexFunc at osier/api.Relation, walked (printed by idx.py). -/
import Derived.Test.YtgilflkgibfjgaaGreatDoorRw
import Derived.Test.YtgilflkgibfjgaaGreatDoorLb
import Derived.Test.YtgilflkgibfjgaaGreatDoorGb
import Derived.Deep.RegionHeld3
import Derived.Deep.RegionWith
import Derived.Shelf.Abstract
namespace Go.Proofs.YtgilflkgibfjgaaGreatDoor
open Go.RowKit
set_option linter.unusedVariables false

/-- A value in a variable of its own, a column that lies elsewhere. -/
def KG (bo cb o : Nat) (u : Vl) (ck : Int) (W0 W : World) : Prop :=
  W.cell? ⟨bo, 0, none⟩ = some (.int .i64 u.k) ∧ W.cell? ⟨bo, 1, none⟩ = some (.int .i64 u.n) ∧ W.cell? ⟨bo, 2, none⟩ = some (.string ⟨u.t.toArray⟩) ∧ W.cell? ⟨cb, o, none⟩ = some (.int .i64 ck) ∧ Below W0.heap.size W0 W
theorem KG.step {bo cb o : Nat} {u : Vl} {ck : Int} {W0 W W' : World} (h : KG bo cb o u ck W0 W) (h1 : bo < W0.heap.size) (h3 : cb < W0.heap.size) (hb : Below W.heap.size W W') : KG bo cb o u ck W0 W' := by
  obtain ⟨k0, k1, k2, k4, k5⟩ := h
  have hz := k5.size
  exact ⟨(hb.cell (p := ⟨bo, 0, none⟩) (by simp only; omega)).trans k0, (hb.cell (p := ⟨bo, 1, none⟩) (by simp only; omega)).trans k1, (hb.cell (p := ⟨bo, 2, none⟩) (by simp only; omega)).trans k2, (hb.cell (p := ⟨cb, o, none⟩) (by simp only; omega)).trans k4, k5.trans (hb.mono hz)⟩

end Go.Proofs.YtgilflkgibfjgaaGreatDoor
namespace Go.Proofs.YtgilflkgibfjgaaGreatDoor
open Go.RowKit
set_option linter.unusedVariables false

set_option maxHeartbeats 4000000 in
set_option maxRecDepth 100000 in
theorem indexFunc_Rel (g : Nat) (lb : Array Value) (eg : ∀ args w, (callFunc g args).run Tryz.prog w = .ok (.enter g args) w) (p : List Value → Bool) (w : World) (v : Value) (xs : List (List Value)) (h : RowAt w v 2 xs) (hl : ∀ x ∈ xs, x.length = 2)
    (hf : ∀ (W : World) (x : List Value), Below w.heap.size w W → x ∈ xs → Calls Tryz.prog g (#[.agg x.toArray] ++ lb) W fun e W' => e = .returned (.bool (p x)) ∧ Below W.heap.size W W') :
    Calls Tryz.prog 93 #[v, .func (.func g) #[] lb] w fun e w' => e = .returned (.int .i64 (idxP p xs)) ∧ Below w.heap.size w w' := by
  obtain ⟨ad, cap, rfl, hnc, hcm⟩ := h.form
  have hln := h.len
  have HR := Lib.hid h
  have HL := Lib.hid hl
  have HF := Lib.hid hf
  unfold maxLen at hcm
  generalize hn : xs.length = n at *
  have HN := Lib.hid hn
  clear h hl hf hn
  go_enter Tryz.func93, Tryz.ntmps93
  go_wp2_with fail
  go_loopw [5, 8] (fun _ i wr => ∃ k : Nat, k ≤ n ∧ i = .int .i64 k ∧ Hid (Below w.heap.size w wr) ∧ Hid (∀ x ∈ xs.take k, p x = false)) (fun _ i _ => n - (intOf i).toNat)
  case atStart => exact ⟨0, Nat.zero_le _, rfl, Lib.hid (Below.refl _ _), Lib.hid (by simp)⟩
  case round =>
    obtain ⟨k, hk, rfl, HB, HP⟩ := hrel
    by_cases hlt : k < n
    · obtain ⟨x, hx⟩ : ∃ x, xs[k]? = some x := ⟨xs[k]'(by rw [HN.out]; exact hlt), List.getElem?_eq_getElem (by rw [HN.out]; exact hlt)⟩
      have hm : x ∈ xs := List.mem_of_getElem? hx
      obtain ⟨b, off, cap', hv, _, _, hbl, hce⟩ := (HR.out.keep HB.out).get hx
      rw [HN.out] at hv
      simp only [Value.slice.injEq, true_and] at hv
      obtain ⟨rfl, rfl⟩ := hv
      obtain ⟨e0, e1, rfl⟩ := len2 (HL.out x hm)
      have q0 := hce 0 e0 rfl
      have q1 := hce 1 e1 rfl
      simp only [Nat.add_zero] at q0 q1
      have hcall := HF.out wr _ HB.out hm
      have HX := Lib.hid hx
      clear hce hm hx
      cases hq : p [e0, e1] with
      | true =>
        rw [hq] at hcall
        have HC := Lib.hid hcall
        have HQ := Lib.hid hq
        clear hcall hq
        go_wp2_with fail
        refine HC.out.mono ?_
        rintro e w' ⟨rfl, hb'⟩
        have HB' := Lib.hid hb'
        clear hb'
        go_wp2_with fail
        go_ret
        refine ⟨?_, HB.out.trans (HB'.out.mono HB.out.size)⟩
        rw [idxP_hit HX.out HQ.out HP.out]
        rfl
      | false =>
        rw [hq] at hcall
        have HC := Lib.hid hcall
        have HQ := Lib.hid hq
        clear hcall hq
        go_wp2_with fail
        refine HC.out.mono ?_
        rintro e w' ⟨rfl, hb'⟩
        have HB' := Lib.hid hb'
        clear hb'
        go_wp2_with fail
        go_roundw
        case rel =>
          refine ⟨k + 1, by omega, by go_num, Lib.hid (HB.out.trans (HB'.out.mono HB.out.size)), Lib.hid ?_⟩
          rw [List.take_add_one, HX.out]
          intro y hy
          simp at hy
          rcases hy with hy | rfl
          · exact HP.out y hy
          · exact HQ.out
        case measure => simp [intOf]; omega
    · obtain rfl : k = n := by omega
      go_wp2_with fail
      go_ret
      refine ⟨?_, HB.out⟩
      have hp := HP.out
      rw [List.take_of_length_le (by rw [HN.out]; exact Nat.le_refl _)] at hp
      rw [idxP_miss hp]
      rfl
end Go.Proofs.YtgilflkgibfjgaaGreatDoor
