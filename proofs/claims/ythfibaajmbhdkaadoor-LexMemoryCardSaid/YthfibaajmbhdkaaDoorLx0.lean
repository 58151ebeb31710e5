/- lex.isLetter, isDigit, nameEnd, walked. -/
import Derived.Test.YthfibaajmbhdkaaDoorVal6
namespace Go.Proofs.YthfibaajmbhdkaaDoor
open Go.RowKit
set_option linter.unusedVariables false

def letB (c : Int) : Bool := decide (97 ≤ c ∧ c ≤ 122 ∨ 65 ≤ c ∧ c ≤ 90 ∨ c = 95)

set_option maxHeartbeats 4000000 in
theorem isLetter_any (c : Int) (w : World) : Calls Tryd.prog 38 #[.int .u8 c] w fun e w' => e = .returned (.bool (letB c)) ∧ w = w' := by
  by_cases h1 : 97 ≤ c <;> by_cases h2 : c ≤ 122 <;> by_cases h3 : 65 ≤ c <;> by_cases h4 : c ≤ 90 <;> first | (exfalso; omega) | skip
  all_goals
    have e : letB c = decide (97 ≤ c ∧ c ≤ 122 ∨ 65 ≤ c ∧ c ≤ 90 ∨ c = 95) := rfl
    simp only [h1, h2, h3, h4] at e
    have HE := Lib.hid e
    clear e
    go_enter Tryd.func38, Tryd.ntmps38
    go_wp2
    go_ret
    exact ⟨by rw [HE.out]; first | (simp; done) | (by_cases h : c = 95 <;> simp [h]), rfl⟩

set_option maxHeartbeats 400000 in
theorem lexDigit_any (c : Int) (w : World) : Calls Tryd.prog 56 #[.int .u8 c] w fun e w' => e = .returned (.bool (digB c)) ∧ w = w' := by
  by_cases h : 48 ≤ c <;> by_cases h2 : c ≤ 57
  all_goals
    have e : digB c = decide (48 ≤ c ∧ c ≤ 57) := rfl
    simp only [h, h2] at e
    have HE := Lib.hid e
    clear e
    go_enter Tryd.func56, Tryd.ntmps56
    go_wp2
    go_ret
    exact ⟨by rw [HE.out]; simp, rfl⟩

/-- How many bytes of a name stand at the front. -/
def nameRun (l : List UInt8) : Nat := (l.takeWhile fun c => letB c.toNat || digB c.toNat).length
theorem nameRun_nil : nameRun [] = 0 := rfl
theorem nameRun_step {l : List UInt8} {k : Nat} (hk : k < l.length) (hd : (letB (bt l k) || digB (bt l k)) = true) : nameRun (l.drop k) = 1 + nameRun (l.drop (k + 1)) := by
  unfold nameRun
  rw [List.drop_eq_getElem_cons hk]
  have e : bt l k = (l[k].toNat : Int) := by simp [bt, hk]
  rw [e] at hd
  rw [List.takeWhile_cons, if_pos hd, List.length_cons]
  omega
theorem nameRun_stop {l : List UInt8} {k : Nat} (hk : k < l.length) (hd : (letB (bt l k) || digB (bt l k)) = false) : nameRun (l.drop k) = 0 := by
  unfold nameRun
  rw [List.drop_eq_getElem_cons hk]
  have e : bt l k = (l[k].toNat : Int) := by simp [bt, hk]
  rw [e] at hd
  rw [List.takeWhile_cons, if_neg (by rw [hd]; simp)]
  rfl
theorem nameRun_le (l : List UInt8) : nameRun l ≤ l.length := by
  unfold nameRun
  exact (List.takeWhile_sublist _).length_le

set_option maxHeartbeats 4000000 in
theorem nameEnd_any (s : ByteArray) (i : Nat) (w : World) (hi : i ≤ s.size) (hs : s.size ≤ 281474976710656) :
    Calls Tryd.prog 39 #[.string s, .int .i64 i] w fun e w' => e = .returned (.int .i64 ((i + nameRun (s.data.toList.drop i) : Nat) : Int)) ∧ w = w' := by
  have hsl : s.data.toList.length = s.size := rfl
  have HSL := Lib.hid hsl
  clear hsl
  generalize hL : s.data.toList = l at *
  have HL := Lib.hid hL
  clear hL
  go_enter Tryd.func39, Tryd.ntmps39
  go_wp2_with fail
  go_loop [1] (fun ix => ∃ k : Nat, i ≤ k ∧ k ≤ s.size ∧ ix = .int .i64 k ∧ nameRun (l.drop i) + i = k + nameRun (l.drop k)) (fun ix => s.size - (intOf ix).toNat)
  case atStart => exact ⟨i, Nat.le_refl _, hi, rfl, by omega⟩
  case round =>
    obtain ⟨k, hik, hk, rfl, hrel⟩ := hrel
    have HR := Lib.hid hrel
    clear hrel
    by_cases hlt : k < s.size
    · have hbt := bt_of s k hlt
      rw [HL.out] at hbt
      have hkl : k < l.length := by have := HSL.out; omega
      by_cases hd : (letB (bt l k) || digB (bt l k)) = true
      · have HST := Lib.hid (nameRun_step hkl hd)
        by_cases hl1 : letB (bt l k) = true
        · clear hd
          go_wp2_with (go_at_call 38; refine (isLetter_any _ _).mono ?_; rintro e w' ⟨rfl, rfl⟩)
          go_round
          case rel => exact ⟨k + 1, by omega, by omega, by go_num, by have := HST.out; have := HR.out; omega⟩
          case measure => simp [intOf]; omega
        · have hl2 : letB (bt l k) = false := by simpa using hl1
          have hd2 : digB (bt l k) = true := by rw [hl2] at hd; simpa using hd
          clear hd hl1
          go_wp2_with (first | (go_at_call 38; refine (isLetter_any _ _).mono ?_; rintro e w' ⟨rfl, rfl⟩) | (go_at_call 56; refine (lexDigit_any _ _).mono ?_; rintro e w' ⟨rfl, rfl⟩))
          go_round
          case rel => exact ⟨k + 1, by omega, by omega, by go_num, by have := HST.out; have := HR.out; omega⟩
          case measure => simp [intOf]; omega
      · have hd' : (letB (bt l k) || digB (bt l k)) = false := by simpa using hd
        have HE := Lib.hid (nameRun_stop hkl hd')
        obtain ⟨hl2, hd2⟩ := Bool.or_eq_false_iff.1 hd'
        clear hd hd'
        go_wp2_with (first | (go_at_call 38; refine (isLetter_any _ _).mono ?_; rintro e w' ⟨rfl, rfl⟩) | (go_at_call 56; refine (lexDigit_any _ _).mono ?_; rintro e w' ⟨rfl, rfl⟩))
        go_ret
        exact ⟨by rw [show i + nameRun (l.drop i) = k by have := HE.out; have := HR.out; omega]; rfl, rfl⟩
    · have hke : k = s.size := by omega
      subst hke
      have HE : Hid (nameRun (l.drop s.size) = 0) := Lib.hid (by rw [List.drop_of_length_le (by have := HSL.out; omega)]; rfl)
      go_wp2_with fail
      go_ret
      exact ⟨congrArg (fun z => Ending.returned (Value.int .i64 z)) (by have := HE.out; have := HR.out; omega), rfl⟩
end Go.Proofs.YthfibaajmbhdkaaDoor
