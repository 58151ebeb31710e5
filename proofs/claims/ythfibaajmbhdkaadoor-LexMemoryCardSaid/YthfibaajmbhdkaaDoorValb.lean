/- osierref01.Valid and the law ValueValids, walked. -/
import Derived.Test.YthfibaajmbhdkaaDoorVala
import Derived.Deep.RegionHeld3
import Derived.Deep.MidRow
namespace Go.Proofs.YthfibaajmbhdkaaDoor
open Go.RowKit
set_option linter.unusedVariables false

set_option maxHeartbeats 2000000 in
theorem refValid_any (k n : Int) (t : ByteArray) (w : World) :
    Calls Tryd.prog 26 #[.agg #[.int .i64 k, .int .i64 n, .string t]] w fun e w' => e = .returned (.bool (validB k n t.data.toList)) ∧ Below w.heap.size w w' := by
  have hl : t.data.toList.length = t.size := rfl
  by_cases k1 : k = 1
  · subst k1
    have HE : Hid (validB 1 n t.data.toList = decide (t.size = 0)) := Lib.hid (by simp only [validB, ← hl, List.length_eq_zero_iff]; simp)
    by_cases h0 : t.size = 0
    · have q : ((t.size : Int) == 0) = true := by simp [h0]
      have HE2 : Hid (validB 1 n t.data.toList = true) := Lib.hid (by rw [HE.out]; simp [h0])
      clear h0 hl
      go_enter Tryd.func26, Tryd.ntmps26
      go_wp2
      go_ret
      exact ⟨by rw [HE2.out]; rfl, balloc (Below.refl _ _) _⟩
    · have q : ((t.size : Int) == 0) = false := beq_eq_false_iff_ne.2 (by omega)
      have q' : (t.size == 0) = false := beq_eq_false_iff_ne.2 (by omega)
      have HE2 : Hid (validB 1 n t.data.toList = false) := Lib.hid (by rw [HE.out]; simp [h0])
      clear h0 hl
      go_enter Tryd.func26, Tryd.ntmps26
      go_wp2
      go_ret
      exact ⟨by rw [HE2.out]; rfl, balloc (Below.refl _ _) _⟩
  · have q1 : (k == 1) = false := by simpa using k1
    have HE : Hid (validB k n t.data.toList = decide (k = 2 ∧ n = 0 ∧ t.size ≤ 64)) := Lib.hid (by simp only [validB, hl, k1]; simp)
    clear hl
    by_cases k2 : k = 2
    · have q2 : (k == 2) = true := by simpa using k2
      by_cases n0 : n = 0
      · have q3 : (n == 0) = true := by simpa using n0
        by_cases h64 : t.size ≤ 64
        · have HE2 : Hid (validB k n t.data.toList = true) := Lib.hid (by rw [HE.out]; simp [k2, n0, h64])
          have h64' : decide ((t.size : Int) ≤ 64) = true := by simp; omega
          clear k1 k2 n0
          go_enter Tryd.func26, Tryd.ntmps26
          go_wp2
          go_ret
          exact ⟨by rw [HE2.out]; rfl, balloc (Below.refl _ _) _⟩
        · have HE2 : Hid (validB k n t.data.toList = false) := Lib.hid (by rw [HE.out]; simp [k2, n0]; omega)
          have h64' : decide ((t.size : Int) ≤ 64) = false := by simp; omega
          clear k1 k2 n0 h64
          go_enter Tryd.func26, Tryd.ntmps26
          go_wp2
          go_ret
          exact ⟨by rw [HE2.out]; rfl, balloc (Below.refl _ _) _⟩
      · have q3 : (n == 0) = false := by simpa using n0
        have HE2 : Hid (validB k n t.data.toList = false) := Lib.hid (by rw [HE.out]; simp [n0])
        clear k1 k2 n0
        go_enter Tryd.func26, Tryd.ntmps26
        go_wp2
        go_ret
        exact ⟨by rw [HE2.out]; rfl, balloc (Below.refl _ _) _⟩
    · have q2 : (k == 2) = false := by simpa using k2
      have HE2 : Hid (validB k n t.data.toList = false) := Lib.hid (by rw [HE.out]; simp [k2])
      clear k1 k2
      go_enter Tryd.func26, Tryd.ntmps26
      go_wp2
      go_ret
      exact ⟨by rw [HE2.out]; rfl, balloc (Below.refl _ _) _⟩

theorem valid_b (k n : Int) (t : ByteArray) (w : World) :
    Calls Tryd.prog 25 #[.agg #[.int .i64 k, .int .i64 n, .string t]] w fun e w' => e = .returned (.bool (validB k n t.data.toList)) ∧ Below w.heap.size w w' :=
  (valid_any k n t w).mono fun _ _ ⟨a, b⟩ => ⟨a, by rw [b]; exact balloc (Below.refl _ _) _⟩

set_option maxHeartbeats 2000000 in
theorem valids_law (k n : Int) (t : ByteArray) (w : World) (h0 : -9223372036854775808 ≤ n) (h1 : n ≤ 9223372036854775807) (ht : t.size ≤ 140737488351232) (hg : Glob w) :
    Calls Tryd.prog 9 #[.agg #[.int .i64 k, .int .i64 n, .string t]] w fun e w' => e = .returned (.bool true) ∧ Below w.heap.size w w' := by
  have HG := Lib.hid hg
  have hB0 : Below w.heap.size w (w.alloc (.cells #[.int .i64 k, .int .i64 n, .string t] 35)) := balloc (Below.refl _ _) _
  clear hg
  go_enter Tryd.func9, Tryd.ntmps9
  go_wp2_with fail
  go_region_held3 (fun w' => w'.cell? ⟨w.heap.size, 0, none⟩ = some (.int .i64 k) ∧ w'.cell? ⟨w.heap.size, 1, none⟩ = some (.int .i64 n) ∧ w'.cell? ⟨w.heap.size, 2, none⟩ = some (.string t) ∧ Below w.heap.size w w')
    (first | (go_split_ands; refine ⟨?_, ?_, ?_, ?_⟩ <;> first | exact bdrew (by assumption) | exact bt2 (by assumption) hb | exact bcell2 hb (by assumption) | go_keep))
    (first
      | (go_at_call 24; go_split_ands; refine (awake01 _ (HG.out.below (by assumption))).mono ?_; rintro e w' ⟨rfl, hb⟩)
      | (go_at_call 25; refine (valid_b k n t _).mono ?_; rintro e w' ⟨rfl, hb⟩)
      | (go_at_call 26; refine (refValid_any k n t _).mono ?_; rintro e w' ⟨rfl, hb⟩))
  all_goals go_split_ands
  all_goals go_wp2_with fail
  all_goals (go_ret; exact ⟨by simp, by assumption⟩)
end Go.Proofs.YthfibaajmbhdkaaDoor
