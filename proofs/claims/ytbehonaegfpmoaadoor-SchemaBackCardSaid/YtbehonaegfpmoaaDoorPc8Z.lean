/- SchemaChecks, walked. -/
import Derived.Test.YtbehonaegfpmoaaDoorAw8Z
import Derived.Test.YtbehonaegfpmoaaDoorKsZ
import Derived.Deep.RegionHeld3
namespace Go.Proofs.YtbehonaegfpmoaaDoor
open Go.RowKit
set_option linter.unusedVariables false

theorem show_any8 (w : World) (nm : ByteArray) (v : Value) (cs : List Col) (h : ColsAt w v cs) (hn : nm.size ≤ 140737488355328) (hc : ∀ c ∈ cs, c.x.length ≤ 140737488355328) :
    Calls Tryd.prog 39 #[.agg #[.string nm, v]] w fun e w' => e = .returned (.string ⟨(showC nm.data.toList cs).toArray⟩) ∧ Below w.heap.size w w' := by
  by_cases hk : chkC nm.data.toList cs = 0
  · exact show_good w nm v cs h hk
  · have e : showC nm.data.toList cs = [] := by
      unfold showC
      rw [if_neg hk]
    rw [e]
    exact show_bad w nm v cs h hn hc hk
theorem refShow_any8 (w : World) (nm : ByteArray) (v : Value) (cs : List Col) (h : ColsAt w v cs) (hn : nm.size ≤ 140737488355328) (hc : ∀ c ∈ cs, c.x.length ≤ 140737488355328) :
    Calls Tryd.prog 40 #[.agg #[.string nm, v]] w fun e w' => e = .returned (.string ⟨(showC nm.data.toList cs).toArray⟩) ∧ Below w.heap.size w w' := by
  by_cases hk : chkC nm.data.toList cs = 0
  · exact refShow_good w nm v cs h hk
  · have e : showC nm.data.toList cs = [] := by
      unfold showC
      rw [if_neg hk]
    rw [e]
    exact refShow_bad w nm v cs h hn hc hk

/-- Two relations, each in a variable of its own. -/
def SC (nm : ByteArray) (v u : Value) (b1 b2 : Nat) (W0 W : World) : Prop :=
  W.cell? ⟨b1, 0, none⟩ = some (.string nm) ∧ W.cell? ⟨b1, 1, none⟩ = some v ∧ W.cell? ⟨b2, 0, none⟩ = some (.string nm) ∧ W.cell? ⟨b2, 1, none⟩ = some u ∧ Below W0.heap.size W0 W
theorem SC.step {nm : ByteArray} {v u : Value} {b1 b2 : Nat} {W0 W W' : World} (h : SC nm v u b1 b2 W0 W) (h1 : b1 < W0.heap.size) (h2 : b2 < W0.heap.size) (hb : Below W.heap.size W W') : SC nm v u b1 b2 W0 W' := by
  obtain ⟨k0, k1, k2, k3, k4⟩ := h
  have hz := k4.size
  exact ⟨(hb.cell (p := ⟨b1, 0, none⟩) (by simp only; omega)).trans k0, (hb.cell (p := ⟨b1, 1, none⟩) (by simp only; omega)).trans k1, (hb.cell (p := ⟨b2, 0, none⟩) (by simp only; omega)).trans k2, (hb.cell (p := ⟨b2, 1, none⟩) (by simp only; omega)).trans k3, k4.trans (hb.mono hz)⟩

set_option maxHeartbeats 4000000 in
set_option maxRecDepth 100000 in
theorem schecks_law (w : World) (nm : ByteArray) (v : Value) (cs : List Col) (h : ColsAt w v cs) (hl : cs.length ≤ 5864062014634) (hn : nm.size ≤ 140737488355328) (hc : ∀ c ∈ cs, c.x.length ≤ 140737488355328) (hg : Glob w) :
    Calls Tryd.prog 8 #[.agg #[.string nm, v]] w fun e w' => e = .returned (.bool true) ∧ Below w.heap.size w w' := by
  have hb0 : Below w.heap.size w (w.alloc (.cells #[.string nm, v] 58)) := balloc (Below.refl _ _) _
  have hbx := Blk.new w 58 #[.string nm, v]
  have hcp := copyRel_any _ nm v cs (h.keep hb0) hl
  have HCP := Lib.hid hcp
  have HBX := Lib.hid hbx
  have HB0 := Lib.hid hb0
  have HV := Lib.hid (h.keep hb0)
  have HG := Lib.hid hg
  have HC := Lib.hid hc
  obtain ⟨va, vc, rfl, _, _⟩ := h.form
  clear h hb0 hbx hcp hg hc
  go_enter Tryd.func8, Tryd.ntmps8
  go_wp2_with fail
  refine HCP.out.mono ?_
  rintro e w1 ⟨u, rfl, hown, hb1⟩
  have hu : ColsAt w1 u cs := ColsOwn.at (B := 0) (by
    show World.ownsRow _ _ _ _ _ _ _
    rw [← cols_flat]
    exact World.ownsRow.low hown (Nat.zero_le _)) (by omega)
  obtain ⟨ua, uc, rfl, _, _⟩ := hu.form
  have bk : Below w1.heap.size w1 (w1.alloc (.cells #[.string nm, .slice ua cs.length uc] 58)) := balloc (Below.refl _ _) _
  obtain ⟨W0, hW0⟩ : ∃ W0, w1.alloc (.cells #[.string nm, .slice ua cs.length uc] 58) = W0 := ⟨_, rfl⟩
  have y := Blk.new w1 58 #[.string nm, .slice ua cs.length uc]
  have x := (HBX.out.below hb1 (by simp)).alloc (.cells #[.string nm, .slice ua cs.length uc] 58)
  have hB1 : Below w.heap.size w W0 := by
    rw [← hW0]
    exact balloc (HB0.out.trans (hb1.mono (by simp))) _
  rw [hW0] at y x bk
  have hv0 : ColsAt W0 (.slice va cs.length vc) cs := (HV.out.keep hb1).keep bk
  have hu0 : ColsAt W0 (.slice ua cs.length uc) cs := hu.keep bk
  have hx0 := x.cell 0
  have hx1 := x.cell 1
  have hy0 := y.cell 0
  have hy1 := y.cell 1
  have hxl := x.lt
  have hyl := y.lt
  simp only [List.getElem?_toArray, List.getElem?_cons_zero, List.getElem?_cons_succ] at hx0 hx1 hy0 hy1
  have hbW := Below.refl W0.heap.size W0
  have HAW : Hid (∀ W, SC nm (.slice va cs.length vc) (.slice ua cs.length uc) w.heap.size w1.heap.size W0 W → Calls Tryd.prog 34 #[] W fun e w' => e = .returned (.bool true) ∧ SC nm (.slice va cs.length vc) (.slice ua cs.length uc) w.heap.size w1.heap.size W0 w') :=
    Lib.hid fun W h => (awake08 W ((HG.out.below hB1).below h.2.2.2.2)).mono fun e w' hh => ⟨hh.1, h.step hxl hyl hh.2⟩
  have HCK : Hid (∀ W, SC nm (.slice va cs.length vc) (.slice ua cs.length uc) w.heap.size w1.heap.size W0 W → Calls Tryd.prog 37 #[.agg #[.string nm, .slice ua cs.length uc]] W fun e w' => e = .returned (.int .i64 (chkC nm.data.toList cs)) ∧ SC nm (.slice va cs.length vc) (.slice ua cs.length uc) w.heap.size w1.heap.size W0 w') :=
    Lib.hid fun W h => (check_any W nm _ cs (hu0.keep h.2.2.2.2) hn HC.out).mono fun e w' hh => ⟨hh.1, h.step hxl hyl hh.2⟩
  have HRC : Hid (∀ W, SC nm (.slice va cs.length vc) (.slice ua cs.length uc) w.heap.size w1.heap.size W0 W → Calls Tryd.prog 38 #[.agg #[.string nm, .slice va cs.length vc]] W fun e w' => e = .returned (.int .i64 (chkC nm.data.toList cs)) ∧ SC nm (.slice va cs.length vc) (.slice ua cs.length uc) w.heap.size w1.heap.size W0 w') :=
    Lib.hid fun W h => (refCheck_any W nm _ cs (hv0.keep h.2.2.2.2) hn HC.out).mono fun e w' hh => ⟨hh.1, h.step hxl hyl hh.2⟩
  have HSH : Hid (∀ W, SC nm (.slice va cs.length vc) (.slice ua cs.length uc) w.heap.size w1.heap.size W0 W → Calls Tryd.prog 39 #[.agg #[.string nm, .slice ua cs.length uc]] W fun e w' => e = .returned (.string ⟨(showC nm.data.toList cs).toArray⟩) ∧ SC nm (.slice va cs.length vc) (.slice ua cs.length uc) w.heap.size w1.heap.size W0 w') :=
    Lib.hid fun W h => (show_any8 W nm _ cs (hu0.keep h.2.2.2.2) hn HC.out).mono fun e w' hh => ⟨hh.1, h.step hxl hyl hh.2⟩
  have HRS : Hid (∀ W, SC nm (.slice va cs.length vc) (.slice ua cs.length uc) w.heap.size w1.heap.size W0 W → Calls Tryd.prog 40 #[.agg #[.string nm, .slice va cs.length vc]] W fun e w' => e = .returned (.string ⟨(showC nm.data.toList cs).toArray⟩) ∧ SC nm (.slice va cs.length vc) (.slice ua cs.length uc) w.heap.size w1.heap.size W0 w') :=
    Lib.hid fun W h => (refShow_any8 W nm _ cs (hv0.keep h.2.2.2.2) hn HC.out).mono fun e w' hh => ⟨hh.1, h.step hxl hyl hh.2⟩
  have HSM : Hid (∀ W, SC nm (.slice va cs.length vc) (.slice ua cs.length uc) w.heap.size w1.heap.size W0 W → Calls Tryd.prog 35 #[.agg #[.string nm, .slice ua cs.length uc], .agg #[.string nm, .slice va cs.length vc]] W fun e w' => e = .returned (.bool true) ∧ SC nm (.slice va cs.length vc) (.slice ua cs.length uc) w.heap.size w1.heap.size W0 w') :=
    Lib.hid fun W h => (sameRel_any W nm _ _ cs (hu0.keep h.2.2.2.2) (hv0.keep h.2.2.2.2)).mono fun e w' hh => ⟨hh.1, h.step hxl hyl hh.2⟩
  have HB1 := Lib.hid hB1
  have HW0 := Lib.hid hW0
  unfold SC at HAW HCK HRC HSH HRS HSM
  clear hown hb1 hu bk x y hB1 hv0 hu0 hW0 HCP HBX HB0 HV HG HC hn
  generalize chkC nm.data.toList cs = cc at *
  generalize showC nm.data.toList cs = ss at *
  generalize cs.length = n at *
  go_wp2_with fail
  rw [HW0.out]
  go_region_held3 (fun w' => w'.cell? ⟨w.heap.size, 0, none⟩ = some (.string nm) ∧ w'.cell? ⟨w.heap.size, 1, none⟩ = some (.slice va n vc) ∧ w'.cell? ⟨w1.heap.size, 0, none⟩ = some (.string nm) ∧ w'.cell? ⟨w1.heap.size, 1, none⟩ = some (.slice ua n uc) ∧ Below W0.heap.size W0 w')
    (first | exact hK | (go_split_ands; refine ⟨?_, ?_, ?_, ?_, ?_⟩ <;> first | exact bdrew (by assumption) | assumption | go_keep))
    (first
      | (go_at_call 34; go_split_ands; refine (HAW.out _ ⟨by assumption, by assumption, by assumption, by assumption, by assumption⟩).mono ?_; rintro e w' ⟨rfl, hK⟩)
      | (go_at_call 37; go_split_ands; refine (HCK.out _ ⟨by assumption, by assumption, by assumption, by assumption, by assumption⟩).mono ?_; rintro e w' ⟨rfl, hK⟩)
      | (go_at_call 38; go_split_ands; refine (HRC.out _ ⟨by assumption, by assumption, by assumption, by assumption, by assumption⟩).mono ?_; rintro e w' ⟨rfl, hK⟩)
      | (go_at_call 39; go_split_ands; refine (HSH.out _ ⟨by assumption, by assumption, by assumption, by assumption, by assumption⟩).mono ?_; rintro e w' ⟨rfl, hK⟩)
      | (go_at_call 40; go_split_ands; refine (HRS.out _ ⟨by assumption, by assumption, by assumption, by assumption, by assumption⟩).mono ?_; rintro e w' ⟨rfl, hK⟩)
      | (go_at_call 35; go_split_ands; refine (HSM.out _ ⟨by assumption, by assumption, by assumption, by assumption, by assumption⟩).mono ?_; rintro e w' ⟨rfl, hK⟩))
  all_goals go_split_ands
  all_goals go_wp2_with fail
  all_goals (go_ret; exact ⟨by simp, HB1.out.trans (Below.mono (by assumption) HB1.out.size)⟩)
theorem schecks_card (nm : ByteArray) (v : Value) (w : World) {cs : List Col} (h : ColsAt w v cs) (hl : cs.length ≤ 5864062014634) (hn : nm.size ≤ 140737488351232) (hc : ∀ c ∈ cs, c.x.length ≤ 140737488351232) (hg : Glob w) :
    Calls Tryd.prog 8 #[.agg #[.string nm, v]] w fun e w' => e = .returned (.bool true) ∧ Below w.heap.size w w' :=
  schecks_law w nm v cs h hl (by omega) (fun c hm => by have := hc c hm; omega) hg
end Go.Proofs.YtbehonaegfpmoaaDoor
