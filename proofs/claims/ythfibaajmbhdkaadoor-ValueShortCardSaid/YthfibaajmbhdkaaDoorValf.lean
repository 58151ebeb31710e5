/- The law ValueShort, walked. -/
import Derived.Test.YthfibaajmbhdkaaDoorVald
namespace Go.Proofs.YthfibaajmbhdkaaDoor
open Go.RowKit
set_option linter.unusedVariables false

def shortB (c : Int) : Prop := 48 ≤ c ∧ c ≤ 57 ∨ 97 ≤ c ∧ c ≤ 122

theorem quoted (s : ByteArray) : (ByteArray.mk #[34] ++ s ++ ByteArray.mk #[34, 34]).data.toList = 34 :: (s.data.toList ++ [34, 34]) := by simp

theorem short_all {s : ByteArray} {k : Nat} (hk : s.size ≤ k) (h : ∀ j, j < k → shortB (bt s.data.toList j)) : ∀ c ∈ s.data.toList, 48 ≤ c.toNat ∧ c.toNat ≤ 57 ∨ 97 ≤ c.toNat ∧ c.toNat ≤ 122 := by
  intro c hc
  obtain ⟨j, hj, rfl⟩ := List.getElem_of_mem hc
  have hl : s.data.toList.length = s.size := rfl
  have := h j (by omega)
  unfold shortB bt at this
  simp only [List.getD_eq_getElem?_getD, List.getElem?_eq_getElem hj, Option.getD_some] at this
  omega

set_option maxHeartbeats 8000000 in
set_option maxRecDepth 100000 in
theorem short_law (s : ByteArray) (w : World) (hs : s.size ≤ 140737488351232) (hg : Glob w) :
    Calls Tryd.prog 16 #[.string s] w fun e w' => e = .returned (.bool true) ∧ Below w.heap.size w w' := by
  have HG := Lib.hid hg
  have HR0 := Lib.hid (Below.refl w.heap.size w)
  clear hg
  go_enter Tryd.func16, Tryd.ntmps16
  go_wp2_with fail
  go_loop [3] (fun ix => ∃ k : Nat, k ≤ s.size ∧ ix = .int .i64 k ∧ ∀ j, j < k → shortB (bt s.data.toList j)) (fun ix => s.size - (intOf ix).toNat)
  case atStart => exact ⟨0, Nat.zero_le _, rfl, fun j h => absurd h (by omega)⟩
  case round =>
    obtain ⟨k, hk, rfl, hall⟩ := hrel
    have HA := Lib.hid hall
    clear hall
    by_cases hlt : k < s.size
    · have hbt := bt_of s k hlt
      by_cases h1 : shortB (bt s.data.toList k)
      · have HN : Hid (∀ j, j < k + 1 → shortB (bt s.data.toList j)) := Lib.hid (by
          intro j hj
          by_cases e : j = k
          · subst e; exact h1
          · exact HA.out j (by omega))
        unfold shortB at h1
        generalize bt s.data.toList k = c at *
        by_cases a : c ≤ 57
        · have b : 48 ≤ c := by omega
          clear h1
          go_wp2_with fail
          go_round
          case rel => exact ⟨k + 1, by omega, by go_num, HN.out⟩
          case measure => simp [intOf]; omega
        · have b : 48 ≤ c := by omega
          have d : 97 ≤ c := by omega
          have e : c ≤ 122 := by omega
          have a' : 57 < c := by omega
          clear h1
          go_wp2_with fail
          go_round
          case rel => exact ⟨k + 1, by omega, by go_num, HN.out⟩
          case measure => simp [intOf]; omega
      · unfold shortB at h1
        generalize bt s.data.toList k = c at *
        by_cases a : 48 ≤ c <;> by_cases b : c ≤ 57 <;> by_cases d : 97 ≤ c <;> by_cases e : c ≤ 122 <;> first | (exfalso; omega) | skip
        all_goals
          clear h1
          go_wp2_with fail
          refine (awake01 _ HG.out).mono ?_
          rintro e w1 ⟨rfl, hb1⟩
          have HB1 := Lib.hid hb1
          clear hb1
          go_wp2_with fail
          go_ret
          exact ⟨rfl, HB1.out⟩
    · have hsz : (ByteArray.mk #[34] ++ s ++ ByteArray.mk #[34, 34]).size = s.size + 3 := by
        have e1 : (ByteArray.mk #[34]).size = 1 := rfl
        have e2 : (ByteArray.mk #[34, 34]).size = 2 := rfl
        simp only [ByteArray.size_append]; omega
      have hsl : s.data.toList.length = s.size := rfl
      have hsc := scan_any (ByteArray.mk #[34] ++ s ++ ByteArray.mk #[34, 34]) 0 w (by omega) HG.out
      have hkk : s.size ≤ k := by omega
      rw [quoted, scan_plain (short_all hkk HA.out)] at hsc
      by_cases h64 : 64 < s.size
      · rw [if_pos (by omega)] at hsc
        have h65 : decide ((s.size : Int) ≤ 64) = false := by simp; omega
        have h66 : decide ((64 : Int) < s.size) = true := by simp; omega
        have HSC := Lib.hid hsc
        clear hsc hsz hsl hkk
        go_wp2_with fail
        refine HSC.out.mono ?_
        rintro e w1 ⟨rfl, hb1⟩
        simp only [Res.v, bad]
        have HB1 := Lib.hid hb1
        clear hb1
        have HB1' := Lib.hid (show Below w.heap.size w (w1.alloc (.cells #[.int .i64 0, .int .i64 0, .string ⟨#[]⟩] 35)) from balloc HB1.out _)
        go_wp2_with fail
        go_ret
        exact ⟨by simp, HB1'.out⟩
      · rw [if_neg (by omega)] at hsc
        have h65 : decide ((s.size : Int) ≤ 64) = true := by simp; omega
        have h66 : decide ((64 : Int) < s.size) = false := by simp; omega
        simp only [Res.v] at hsc
        rw [hsl] at hsc
        have HSC : Hid (Calls Tryd.prog 29 #[.string (ByteArray.mk #[34] ++ s ++ ByteArray.mk #[34, 34]), .int .i64 0] w fun e w' => e = .returned (.tuple #[.agg #[.int .i64 2, .int .i64 0, .string s], .int .i64 ((s.size : Int) + 2), .int .i64 0]) ∧ Below w.heap.size w w') := Lib.hid hsc
        clear hsc hsz hsl hkk
        have g1 : (2 : Int) ≤ (s.size : Int) + 2 := by omega
        have g2 : wrap64 ((s.size : Int) + 2 - 2) = s.size := by unfold wrap64; omega
        have HB : Hid (∀ w1 : World, Below w.heap.size w w1 → Below w.heap.size w (w1.alloc (.cells #[.int .i64 2, .int .i64 0, .string s] 35))) := Lib.hid fun w1 h => balloc h _
        go_wp2_with fail
        refine HSC.out.mono ?_
        rintro e w1 ⟨rfl, hb1⟩
        have HB1 := Lib.hid (HB.out _ hb1)
        clear hb1
        go_wp2_with fail
        go_ret
        exact ⟨by simp, HB1.out⟩
end Go.Proofs.YthfibaajmbhdkaaDoor
