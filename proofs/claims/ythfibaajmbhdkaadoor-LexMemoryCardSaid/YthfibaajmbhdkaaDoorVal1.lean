/- value.scanByte, walked. -/
import Derived.Test.YthfibaajmbhdkaaDoorVal0
import Derived.Deep.Light
namespace Go.Proofs.YthfibaajmbhdkaaDoor
open Go.RowKit

/-- Byte k of a text, as a number. -/
def bt (l : List UInt8) (k : Nat) : Int := (l.getD k 0).toNat
theorem bt_bd (l : List UInt8) (k : Nat) : 0 ≤ bt l k ∧ bt l k ≤ 255 := by
  unfold bt; have := (l.getD k 0).toNat_lt; omega
theorem bt_of (s : ByteArray) (k : Nat) (h : k < s.size) : ((s[k]'h).toNat : Int) = bt s.data.toList k := by
  unfold bt
  have h' : k < s.data.size := h
  have e : s.data.toList.getD k 0 = s[k]'h := by
    rw [List.getD_eq_getElem?_getD, Array.getElem?_toList, Array.getElem?_eq_getElem h']
    rfl
  rw [e]

/-- The byte that a literal's text begins with, and how many bytes write it. -/
def scanB (l : List UInt8) : Int × Int :=
  if bt l 0 ≠ 92 then (if bt l 0 < 32 then (0, 0) else if 126 < bt l 0 then (0, 0) else (bt l 0, 1))
  else if (l.length : Int) < 2 then (0, 0)
  else if bt l 1 = 34 ∨ bt l 1 = 92 then (bt l 1, 2)
  else if bt l 1 = 110 then (10, 2)
  else if bt l 1 = 116 then (9, 2)
  else if bt l 1 = 120 then
    if (l.length : Int) < 4 then (0, 0)
    else if hexI (bt l 2) < 0 then (0, 0) else if hexI (bt l 3) < 0 then (0, 0)
    else (hexI (bt l 2) * 16 + hexI (bt l 3), 4)
  else (0, 0)

theorem or16 : ∀ h l : Fin 16, bits BinOp.or IntKind.i64 ((h.val : Int) * 16) (l.val : Int) = (h.val : Int) * 16 + (l.val : Int) := by decide +kernel
theorem or_hex (h l : Int) (h0 : 0 ≤ h) (h1 : h ≤ 15) (l0 : 0 ≤ l) (l1 : l ≤ 15) : bits BinOp.or IntKind.i64 (h * 16) l % 256 = h * 16 + l := by
  have e := or16 ⟨h.toNat, by omega⟩ ⟨l.toNat, by omega⟩
  simp only [Int.toNat_of_nonneg h0, Int.toNat_of_nonneg l0] at e
  rw [e]; omega

set_option maxHeartbeats 2000000 in
theorem scanByte_any (s : ByteArray) (w : World) (h0 : 0 < s.size) :
    Calls Tryd.prog 63 #[.string s] w fun e w' => e = .returned (.tuple #[.int .u8 (scanB s.data.toList).1, .int .i64 (scanB s.data.toList).2]) ∧ Below w.heap.size w w' := by
  have hl : s.data.toList.length = s.size := rfl
  have e0 := bt_of s 0 h0
  have e1 : ∀ h : 1 < s.size, ((s[1]'h).toNat : Int) = bt s.data.toList 1 := bt_of s 1
  have e2 : ∀ h : 2 < s.size, ((s[2]'h).toNat : Int) = bt s.data.toList 2 := bt_of s 2
  have e3 : ∀ h : 3 < s.size, ((s[3]'h).toNat : Int) = bt s.data.toList 3 := bt_of s 3
  have HL := Lib.hid hl
  clear hl
  generalize hll : s.data.toList = l at *
  clear hll
  by_cases hx : 4 ≤ (s.size : Int) ∧ bt l 0 = 92 ∧ bt l 1 = 120
  · obtain ⟨hx1, hx2, hx3⟩ := hx
    have b2 := hexI_bd (bt l 2)
    have b3 := hexI_bd (bt l 3)
    have hs2 : (2 : Int) < s.size := by omega
    have hs3 : (3 : Int) < s.size := by omega
    have q1 : (bt l 0 != 92) = false := by simp [hx2]
    have q2 : (bt l 1 == 34) = false := by simp [hx3]
    have q3 : (bt l 1 == 92) = false := by simp [hx3]
    have q4 : (bt l 1 == 110) = false := by simp [hx3]
    have q5 : (bt l 1 == 116) = false := by simp [hx3]
    have q6 : (bt l 1 == 120) = true := by simp [hx3]
    have HX : scanB l = if hexI (bt l 2) < 0 then (0, 0) else if hexI (bt l 3) < 0 then (0, 0) else (hexI (bt l 2) * 16 + hexI (bt l 3), 4) := by
      have := HL.out
      simp only [scanB, hx2, hx3, this]
      rw [if_neg (by omega), if_neg (by omega), if_neg (by omega), if_neg (by omega), if_neg (by omega), if_pos trivial, if_neg (by omega)]
    have HZ := Lib.hid HX
    clear HX hx2 hx3
    go_enter Tryd.func63, Tryd.ntmps63
    go_wp2_with fail
    go_quiet ((go_at_call 75; exact Calls.quiet_of_same ((hex_any _ _).mono fun _ _ h => ⟨h.1, h.2.symm⟩)))
    go_wp2_with fail
    all_goals
      go_ret2
      refine ⟨congrArg Ending.returned ?_, bdrewN (Below.refl _ _) _⟩
      go_light
      have hz := HZ.out
      rw [hz]
    · rw [if_neg (by omega), if_pos (by omega)]; rfl
    · rw [if_neg (by omega), if_neg (by omega)]
      have := or_hex (hexI (bt l 2)) (hexI (bt l 3)) (by omega) (by omega) (by omega) (by omega)
      simp [this]
    · rw [if_pos (by omega)]; rfl
  · have HX := Lib.hid hx
    clear hx
    go_enter Tryd.func63, Tryd.ntmps63
    go_wp2_with fail
    all_goals first
      | (exfalso; go_light; have hx := HX.out; simp_all; done)
      | (go_ret2; refine ⟨congrArg Ending.returned ?_, Below.refl _ _⟩; go_light; have hl := HL.out; simp only [scanB, hl]; simp_all; done)
      | (go_ret2; refine ⟨congrArg Ending.returned ?_, Below.refl _ _⟩; go_light; have hl := HL.out; simp only [scanB, hl]; simp_all; omega)
      | (go_ret2; refine ⟨congrArg Ending.returned ?_, Below.refl _ _⟩; go_light; have hl := HL.out; simp only [scanB, hl]; simp_all; repeat (split <;> simp_all <;> try omega))
end Go.Proofs.YthfibaajmbhdkaaDoor
