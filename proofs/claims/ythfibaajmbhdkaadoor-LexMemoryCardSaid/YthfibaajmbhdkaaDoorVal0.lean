/- value: the bytes of a literal: isDigit, hex, scanByte, walked; what they compute. -/
import Derived.Test.YthfibaajmbhdkaaDoorProg
import Derived.Test.YthfibaajmbhdkaaDoorMod
import Derived.WalkSpells
import Derived.WalkLawsBesides
import Derived.Deep.QuietTactic
import Derived.BigQuiet
import Derived.Lib.Hide
import Derived.Handy
namespace Go.Proofs.YthfibaajmbhdkaaDoor
open Go.RowKit

def digB (c : Int) : Bool := decide (48 ≤ c ∧ c ≤ 57)

set_option maxHeartbeats 400000 in
theorem isDigit_any (c : Int) (w : World) : Calls Tryd.prog 48 #[.int .u8 c] w fun e w' => e = .returned (.bool (digB c)) ∧ w = w' := by
  by_cases h : 48 ≤ c <;> by_cases h2 : c ≤ 57
  all_goals
    have e : digB c = decide (48 ≤ c ∧ c ≤ 57) := rfl
    simp only [h, h2] at e
    have HE := Lib.hid e
    clear e
    go_enter Tryd.func48, Tryd.ntmps48
    go_wp2
    go_ret
    exact ⟨by rw [HE.out]; rfl, rfl⟩

def hexI (c : Int) : Int := if 48 ≤ c ∧ c ≤ 57 then c - 48 else if 97 ≤ c ∧ c ≤ 102 then c - 87 else if 65 ≤ c ∧ c ≤ 70 then c - 55 else -1

theorem hexI_bd (c : Int) : -1 ≤ hexI c ∧ hexI c ≤ 15 := by unfold hexI; split <;> (try split) <;> (try split) <;> omega

set_option maxHeartbeats 1000000 in
theorem hex_any (c : Int) (w : World) : Calls Tryd.prog 75 #[.int .u8 c] w fun e w' => e = .returned (.int .i64 (hexI c)) ∧ w = w' := by
  by_cases h1 : 48 ≤ c ∧ c ≤ 57
  · obtain ⟨h1, h2⟩ := h1
    have e : hexI c = c - 48 := by unfold hexI; rw [if_pos ⟨h1, h2⟩]
    have HE := Lib.hid e
    have hd : digB c = true := by simp [digB, h1, h2]
    clear e
    go_enter Tryd.func75, Tryd.ntmps75
    go_wp2_with (go_at_call 48; refine (isDigit_any _ _).mono ?_; rintro e w' ⟨rfl, rfl⟩)
    go_ret
    exact ⟨by rw [HE.out]; rfl, rfl⟩
  · have hd : digB c = false := by simp only [digB, decide_eq_false_iff_not]; exact h1
    by_cases h2 : 97 ≤ c ∧ c ≤ 102
    · have e : hexI c = c - 87 := by unfold hexI; rw [if_neg h1, if_pos h2]
      have HE := Lib.hid e
      clear e h1
      obtain ⟨h2, h3⟩ := h2
      go_enter Tryd.func75, Tryd.ntmps75
      go_wp2_with (go_at_call 48; refine (isDigit_any _ _).mono ?_; rintro e w' ⟨rfl, rfl⟩)
      go_ret
      exact ⟨by rw [HE.out]; exact congrArg (fun x => Ending.returned (.int .i64 x)) (by omega), rfl⟩
    · by_cases h3 : 65 ≤ c ∧ c ≤ 70
      · have e : hexI c = c - 55 := by unfold hexI; rw [if_neg h1, if_neg h2, if_pos h3]
        have HE := Lib.hid e
        clear e h1 h2
        obtain ⟨h3, h4⟩ := h3
        go_enter Tryd.func75, Tryd.ntmps75
        go_wp2_with (go_at_call 48; refine (isDigit_any _ _).mono ?_; rintro e w' ⟨rfl, rfl⟩)
        go_ret
        exact ⟨by rw [HE.out]; exact congrArg (fun x => Ending.returned (.int .i64 x)) (by omega), rfl⟩
      · have e : hexI c = -1 := by unfold hexI; rw [if_neg h1, if_neg h2, if_neg h3]
        have HE := Lib.hid e
        clear e h1
        by_cases g1 : 97 ≤ c <;> by_cases g2 : c ≤ 102 <;> by_cases g3 : 65 ≤ c <;> by_cases g4 : c ≤ 70
        all_goals first
          | (exfalso; first | exact h2 ⟨g1, g2⟩ | exact h3 ⟨g3, g4⟩ | omega)
          | (clear h2 h3
             go_enter Tryd.func75, Tryd.ntmps75
             go_wp2_with (go_at_call 48; refine (isDigit_any _ _).mono ?_; rintro e w' ⟨rfl, rfl⟩)
             go_ret
             exact ⟨by rw [HE.out]; rfl, rfl⟩)
end Go.Proofs.YthfibaajmbhdkaaDoor
