/- value.Valid and value.Show, walked. -/
import Derived.Test.YthfibaajmbhdkaaDoorVal7
import Derived.Test.YthfibaajmbhdkaaDoorVal4
import Derived.Lib.AppendIntMem
namespace Go.Proofs.YthfibaajmbhdkaaDoor
open Go.RowKit
set_option linter.unusedVariables false

def validB (k n : Int) (t : List UInt8) : Bool := decide (k = 1 ∧ t = [] ∨ k = 2 ∧ n = 0 ∧ t.length ≤ 64)

theorem isEmpty_data (t : ByteArray) : t.toList.isEmpty = t.data.toList.isEmpty := by rw [ByteArray.toList_eq]

set_option maxHeartbeats 2000000 in
theorem valid_any (k n : Int) (t : ByteArray) (w : World) :
    Calls Tryd.prog 25 #[.agg #[.int .i64 k, .int .i64 n, .string t]] w fun e w' => e = .returned (.bool (validB k n t.data.toList)) ∧ w' = w.alloc (.cells #[.int .i64 k, .int .i64 n, .string t] 35) := by
  by_cases k1 : k = 1
  · subst k1
    by_cases ht : t.data.toList = []
    · have HE : Hid (validB 1 n t.data.toList = true) := Lib.hid (by simp [validB, ht])
      have q : t.toList.isEmpty = true := by rw [isEmpty_data, ht]; rfl
      clear ht
      go_enter Tryd.func25, Tryd.ntmps25
      go_wp2
      go_ret
      exact ⟨by rw [HE.out]; rfl, rfl⟩
    · have HE : Hid (validB 1 n t.data.toList = false) := Lib.hid (by simp only [validB, ht]; simp)
      have q : t.toList.isEmpty = false := by rw [isEmpty_data]; cases h : t.data.toList with | nil => exact absurd h ht | cons _ _ => rfl
      clear ht
      go_enter Tryd.func25, Tryd.ntmps25
      go_wp2
      go_ret
      exact ⟨by rw [HE.out]; rfl, rfl⟩
  · have q1 : (k == 1) = false := by simpa using k1
    have hl : t.data.toList.length = t.size := rfl
    by_cases k2 : k = 2
    · have q2 : (k == 2) = true := by simpa using k2
      have HE : Hid (validB k n t.data.toList = decide (n = 0 ∧ t.size ≤ 64)) := Lib.hid (by simp only [validB, k2, hl]; simp)
      by_cases n0 : n = 0
      · have q3 : (n == 0) = true := by simpa using n0
        have HE2 : Hid (validB k n t.data.toList = decide (t.size ≤ 64)) := Lib.hid (by rw [HE.out]; simp [n0])
        by_cases h64 : t.size ≤ 64
        · have HE3 : Hid (validB k n t.data.toList = true) := Lib.hid (by rw [HE2.out]; simp [h64])
          have h64' : decide ((t.size : Int) ≤ 64) = true := by simp; omega
          clear k1 k2 n0 hl
          go_enter Tryd.func25, Tryd.ntmps25
          go_wp2
          go_ret
          exact ⟨by rw [HE3.out]; rfl, rfl⟩
        · have HE3 : Hid (validB k n t.data.toList = false) := Lib.hid (by rw [HE2.out]; simp; omega)
          have h65 : 64 < t.size := by omega
          have h65' : decide ((t.size : Int) ≤ 64) = false := by simp; omega
          clear k1 k2 n0 hl h64
          go_enter Tryd.func25, Tryd.ntmps25
          go_wp2
          go_ret
          exact ⟨by rw [HE3.out]; rfl, rfl⟩
      · have q3 : (n == 0) = false := by simpa using n0
        have HE3 : Hid (validB k n t.data.toList = false) := Lib.hid (by rw [HE.out]; simp [n0])
        clear k1 k2 n0 hl
        go_enter Tryd.func25, Tryd.ntmps25
        go_wp2
        go_ret
        exact ⟨by rw [HE3.out]; rfl, rfl⟩
    · have q2 : (k == 2) = false := by simpa using k2
      have HE3 : Hid (validB k n t.data.toList = false) := Lib.hid (by simp [validB, k1, k2])
      clear k1 k2 hl
      go_enter Tryd.func25, Tryd.ntmps25
      go_wp2
      go_ret
      exact ⟨by rw [HE3.out]; rfl, rfl⟩

/-- A text between its quotes. -/
def showT (t : List UInt8) : List UInt8 := t.flatMap fun c => showB c.toNat
/-- A value's literal. -/
def showR (k n : Int) (t : List UInt8) : List UInt8 := if validB k n t then (if k = 1 then Lib.itoa n else 34 :: (showT t ++ [34])) else []

theorem showT_len (t : List UInt8) : (showT t).length ≤ t.length * 4 := by
  induction t with
  | nil => simp [showT]
  | cons c t ih =>
    have : (showB c.toNat).length ≤ 4 := by unfold showB; (repeat' split) <;> simp
    simp only [showT, List.flatMap_cons, List.length_append, List.length_cons] at *
    omega

set_option maxHeartbeats 2000000 in
theorem show_bad (k n : Int) (t : ByteArray) (w : World) (h : validB k n t.data.toList = false) :
    Calls Tryd.prog 27 #[.agg #[.int .i64 k, .int .i64 n, .string t]] w fun e w' => e = .returned (.string ⟨(showR k n t.data.toList).toArray⟩) ∧ Below w.heap.size w w' := by
  have HE : Hid (showR k n t.data.toList = []) := Lib.hid (by rw [showR, h]; rfl)
  go_enter Tryd.func27, Tryd.ntmps27
  go_wp2_with fail
  refine (valid_any k n t _).mono ?_
  rintro e w1 ⟨rfl, rfl⟩
  rw [h]
  go_wp2_with fail
  go_ret
  exact ⟨by rw [HE.out]; rfl, balloc (balloc (Below.refl _ _) _) _⟩

set_option maxHeartbeats 2000000 in
theorem show_num (n : Int) (t : ByteArray) (w : World) (h : validB 1 n t.data.toList = true) (h0 : -9223372036854775808 ≤ n) (h1 : n ≤ 9223372036854775807) (hg : Glob w) :
    Calls Tryd.prog 27 #[.agg #[.int .i64 1, .int .i64 n, .string t]] w fun e w' => e = .returned (.string ⟨(showR 1 n t.data.toList).toArray⟩) ∧ Below w.heap.size w w' := by
  have HE : Hid (showR 1 n t.data.toList = Lib.itoa n) := Lib.hid (by rw [showR, h]; rfl)
  have hb0 : Below w.heap.size w ((w.alloc (.cells #[.int .i64 1, .int .i64 n, .string t] 35)).alloc (.cells #[.int .i64 1, .int .i64 n, .string t] 35)) := balloc (balloc (Below.refl _ _) _) _
  have HF := Lib.hid (Tryd.strconv_FormatInt_10 n h0 h1 _ (hg.below hb0).tab)
  have HB := Lib.hid hb0
  clear hg hb0
  go_enter Tryd.func27, Tryd.ntmps27
  go_wp2_with fail
  refine (valid_any 1 n t _).mono ?_
  rintro e w1 ⟨rfl, rfl⟩
  rw [h]
  go_wp2_with fail
  refine HF.out.mono ?_
  rintro e w2 ⟨rfl, k, os, rfl⟩
  go_wp2_with fail
  go_ret
  exact ⟨by rw [HE.out]; rfl, HB.out.trans (Lib.below_grow _ _ (by simp; omega) _ _)⟩
end Go.Proofs.YthfibaajmbhdkaaDoor
