/- The law ValueBack, walked. -/
import Derived.Test.YthfibaajmbhdkaaDoorVala
import Derived.Test.YthfibaajmbhdkaaDoorPl
import Derived.Deep.RegionHeld3
import Derived.Lib.ItoaLen
import Derived.Deep.MidRow
namespace Go.Proofs.YthfibaajmbhdkaaDoor
open Go.RowKit
set_option linter.unusedVariables false

theorem showR_small {k n : Int} {t : List UInt8} (h0 : -9223372036854775808 ≤ n) (h1 : n ≤ 9223372036854775807) : (showR k n t).length ≤ 258 := by
  unfold showR
  split
  · rename_i h
    simp only [validB, decide_eq_true_eq] at h
    have hi := Lib.itoa_length_le n h0 h1
    have ht := showT_len t
    split
    · omega
    · simp; omega
  · simp

/-- A valid value's literal, and what it is read back as. -/
theorem back_calls2 (k n : Int) (t : ByteArray) (h0 : -9223372036854775808 ≤ n) (h1 : n ≤ 9223372036854775807) (hv : validB k n t.data.toList = true) :
    ∃ S : ByteArray, Hid (∀ W, Glob W → Calls Tryd.prog 27 #[.agg #[.int .i64 k, .int .i64 n, .string t]] W fun e w' => e = .returned (.string S) ∧ Below W.heap.size W w') ∧
      Hid (∀ W, Glob W → Calls Tryd.prog 31 #[.string S] W fun e w' => e = .returned (.tuple #[.agg #[.int .i64 k, .int .i64 n, .string t], .int .i64 0]) ∧ Below W.heap.size W w') ∧ S.size = (showR k n t.data.toList).length := by
  refine ⟨⟨(showR k n t.data.toList).toArray⟩, Lib.hid fun W hg => show_any k n t W h0 h1 hg, Lib.hid fun W hg => ?_, by simp [ByteArray.size]⟩
  have hsm : (ByteArray.mk (showR k n t.data.toList).toArray).size = (showR k n t.data.toList).length := by simp [ByteArray.size]
  have h := read_any ⟨(showR k n t.data.toList).toArray⟩ W (by rw [hsm]; have := showR_small (k := k) (t := t.data.toList) h0 h1; omega) hg
  rw [show (ByteArray.mk (showR k n t.data.toList).toArray).data.toList = showR k n t.data.toList by simp, read_show hv h0 h1] at h
  exact h

theorem back_calls (k n : Int) (t : ByteArray) (h0 : -9223372036854775808 ≤ n) (h1 : n ≤ 9223372036854775807) (hv : validB k n t.data.toList = true) :
    ∃ S : ByteArray, Hid (∀ W, Glob W → Calls Tryd.prog 27 #[.agg #[.int .i64 k, .int .i64 n, .string t]] W fun e w' => e = .returned (.string S) ∧ Below W.heap.size W w') ∧
      Hid (∀ W, Glob W → Calls Tryd.prog 31 #[.string S] W fun e w' => e = .returned (.tuple #[.agg #[.int .i64 k, .int .i64 n, .string t], .int .i64 0]) ∧ Below W.heap.size W w') := by
  obtain ⟨S, a, b, _⟩ := back_calls2 k n t h0 h1 hv
  exact ⟨S, a, b⟩

set_option maxHeartbeats 4000000 in
set_option maxRecDepth 100000 in
theorem back_yes (k n : Int) (t : ByteArray) (w : World) (h0 : -9223372036854775808 ≤ n) (h1 : n ≤ 9223372036854775807) (hg : Glob w) (hv : validB k n t.data.toList = true)
    (hq : ((k == 1) = true ∧ t.toList.isEmpty = true) ∨ ((k == 1) = false ∧ (k == 2) = true ∧ (n == 0) = true ∧ decide ((t.size : Int) ≤ 64) = true)) :
    Calls Tryd.prog 13 #[.agg #[.int .i64 k, .int .i64 n, .string t]] w fun e w' => e = .returned (.bool true) ∧ Below w.heap.size w w' := by
  obtain ⟨S, HS, HR⟩ := back_calls k n t h0 h1 hv
  have HG := Lib.hid hg
  have hB0 : Below w.heap.size w (w.alloc (.cells #[.int .i64 k, .int .i64 n, .string t] 35)) := balloc (Below.refl _ _) _
  have HB0 := Lib.hid hB0
  clear hg hv hB0
  rcases hq with ⟨q1, q2⟩ | ⟨q1, q2, q3, q4⟩
  all_goals
    go_enter Tryd.func13, Tryd.ntmps13
    go_wp2_with fail
    refine (HS.out _ (HG.out.below HB0.out)).mono ?_
    rintro e w1 ⟨rfl, hb1⟩
    have a0 := hb1.cell (p := ⟨w.heap.size, 0, none⟩) (by simp)
    have a1 := hb1.cell (p := ⟨w.heap.size, 1, none⟩) (by simp)
    have a2 := hb1.cell (p := ⟨w.heap.size, 2, none⟩) (by simp)
    simp [go_sem] at a0 a1 a2
    have z1 := hb1.size
    simp at z1
    have HB1 := Lib.hid (HB0.out.trans (hb1.mono (by simp)))
    clear hb1
    go_wp2_with fail
    refine (HR.out _ (HG.out.below HB1.out)).mono ?_
    rintro e w2 ⟨rfl, hb2⟩
    have b0 := (hb2.cell (p := ⟨w.heap.size, 0, none⟩) (by simp; omega)).trans a0
    have b1 := (hb2.cell (p := ⟨w.heap.size, 1, none⟩) (by simp; omega)).trans a1
    have b2 := (hb2.cell (p := ⟨w.heap.size, 2, none⟩) (by simp; omega)).trans a2
    have z2 := hb2.size
    have HB2 := Lib.hid (HB1.out.trans (hb2.mono (by omega)))
    have z3 : w.heap.size < w2.heap.size := by omega
    clear hb2 a0 a1 a2 z1 z2
    go_wp2_with fail
    have hb3 : Below w.heap.size w (w2.alloc (.cells #[.int .i64 k, .int .i64 n, .string t] 35)) := balloc HB2.out _
    refine (awake01 _ (HG.out.below hb3)).mono ?_
    rintro e w3 ⟨rfl, hb4⟩
    have HB4 := Lib.hid (hb3.trans (hb4.mono (by simp; omega)))
    clear hb3 hb4
    go_wp2_with fail
    go_ret
    exact ⟨rfl, HB4.out⟩

set_option maxHeartbeats 4000000 in
set_option maxRecDepth 100000 in
theorem back_no (k n : Int) (t : ByteArray) (w : World) (h0 : -9223372036854775808 ≤ n) (h1 : n ≤ 9223372036854775807) (hg : Glob w) (hv : validB k n t.data.toList = false)
    (hq : ((k == 1) = true ∧ (k == 2) = false ∧ t.toList.isEmpty = false) ∨ ((k == 1) = false ∧ (k == 2) = true ∧ (n == 0) = true ∧ decide ((t.size : Int) ≤ 64) = false) ∨ ((k == 1) = false ∧ (k == 2) = true ∧ (n == 0) = false) ∨ ((k == 1) = false ∧ (k == 2) = false)) :
    Calls Tryd.prog 13 #[.agg #[.int .i64 k, .int .i64 n, .string t]] w fun e w' => e = .returned (.bool true) ∧ Below w.heap.size w w' := by
  have HS : Hid (∀ W, Glob W → Calls Tryd.prog 27 #[.agg #[.int .i64 k, .int .i64 n, .string t]] W fun e w' => e = .returned (.string ⟨#[]⟩) ∧ Below W.heap.size W w') := Lib.hid (by
    intro W hG
    have h := show_any k n t W h0 h1 hG
    have e : showR k n t.data.toList = [] := by unfold showR; rw [hv]; rfl
    rw [e] at h
    exact h)
  have HG := Lib.hid hg
  have HB0 := Lib.hid (show Below w.heap.size w (w.alloc (.cells #[.int .i64 k, .int .i64 n, .string t] 35)) from balloc (Below.refl _ _) _)
  clear hg hv
  rcases hq with ⟨q1, q2, q3⟩ | ⟨q1, q2, q3, q4⟩ | ⟨q1, q2, q3⟩ | ⟨q1, q2⟩
  all_goals
    go_enter Tryd.func13, Tryd.ntmps13
    go_wp2_with fail
    refine (HS.out _ (HG.out.below HB0.out)).mono ?_
    rintro e w1 ⟨rfl, hb1⟩
    have hB1 := HB0.out.trans (hb1.mono (by simp))
    have z1 := hb1.size
    simp at z1
    have HB1 := Lib.hid hB1
    clear hb1 hB1
    go_wp2_with fail
    refine (awake01 _ (HG.out.below HB1.out)).mono ?_
    rintro e w3 ⟨rfl, hb4⟩
    have HB4 := Lib.hid (HB1.out.trans (hb4.mono (by omega)))
    clear hb4
    go_wp2_with fail
    go_ret
    exact ⟨rfl, HB4.out⟩

theorem back_law (k n : Int) (t : ByteArray) (w : World) (h0 : -9223372036854775808 ≤ n) (h1 : n ≤ 9223372036854775807) (ht : t.size ≤ 140737488351232) (hg : Glob w) :
    Calls Tryd.prog 13 #[.agg #[.int .i64 k, .int .i64 n, .string t]] w fun e w' => e = .returned (.bool true) ∧ Below w.heap.size w w' := by
  have hl : t.data.toList.length = t.size := rfl
  cases hv : validB k n t.data.toList with
  | true =>
    refine back_yes k n t w h0 h1 hg hv ?_
    simp only [validB, decide_eq_true_eq] at hv
    rcases hv with ⟨rfl, ht⟩ | ⟨rfl, rfl, ht⟩
    · exact .inl ⟨rfl, by rw [isEmpty_data, ht]; rfl⟩
    · exact .inr ⟨rfl, rfl, rfl, by simp; omega⟩
  | false =>
    refine back_no k n t w h0 h1 hg hv ?_
    simp only [validB, decide_eq_false_iff_not] at hv
    by_cases k1 : k = 1
    · subst k1
      refine .inl ⟨rfl, rfl, ?_⟩
      rw [isEmpty_data]
      cases h : t.data.toList with
      | nil => exact absurd (.inl ⟨rfl, h⟩) hv
      | cons _ _ => rfl
    · refine .inr ?_
      have q1 : (k == 1) = false := by simpa using k1
      by_cases k2 : k = 2
      · have q2 : (k == 2) = true := by simpa using k2
        by_cases n0 : n = 0
        · exact .inl ⟨q1, q2, by simpa using n0, by simp; omega⟩
        · exact .inr (.inl ⟨q1, q2, by simpa using n0⟩)
      · exact .inr (.inr ⟨q1, by simpa using k2⟩)
end Go.Proofs.YthfibaajmbhdkaaDoor
