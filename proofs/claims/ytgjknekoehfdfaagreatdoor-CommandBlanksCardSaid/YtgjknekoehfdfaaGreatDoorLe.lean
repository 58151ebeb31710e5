/- value.Compare, walked. value.Show of a text, walked. osierlaw01.awake, walked. osierref01.Texts, Compare, walked; the law ValueCompares. osierref01.Valid and the law ValueValids, walked. osierref01.Byte, Digits, Number, Show, walked. osierref01.Digits, Number, walked. osierref01.small, walked. osierref01.unit, walked. osierref01.unit, walked. osierref01.scanText, walked. -/
import Derived.Test.YtgjknekoehfdfaaGreatDoorProg
import Derived.Test.YtgjknekoehfdfaaGreatDoorShelf
import Derived.Test.YtgjknekoehfdfaaGreatDoorLa
import Derived.Test.YtgjknekoehfdfaaGreatDoorLb
import Derived.Lib.Bytealg
import Derived.WalkSpells
import Derived.WalkLawsBesides
import Derived.Deep.QuietTactic
import Derived.BigQuiet
import Derived.Lib.Hide
import Derived.StillTailTactics
import Derived.Handy
import Derived.Deep.RegionHeld3
import Derived.KernelRfl
import Derived.Deep.MidRow
import Derived.Lib.ItoaLen
import Derived.Lib.ConvBytes
namespace Go.Proofs.YtgjknekoehfdfaaGreatDoor
open Go.RowKit

def cmpI (a b : Int) : Int := if a < b then -1 else if b < a then 1 else 0
def orI (x y z : Int) : Int := if x = 0 then (if y = 0 then z else y) else x

set_option maxHeartbeats 400000 in
theorem cmpKind_any (a b : Int) (w : World) : Calls Tryz.prog 167 #[.int .i64 a, .int .i64 b] w fun e w' => e = .returned (.int .i64 (cmpI a b)) ∧ w = w' := by
  have t0 : (a != a) = false := by simp
  have t1 : (b != b) = false := by simp
  by_cases h : a < b
  · have e : cmpI a b = -1 := by simp [cmpI, h]
    have HE := Lib.hid e
    clear e
    go_enter Tryz.func167, Tryz.ntmps167
    go_wp2
    go_ret
    exact ⟨by rw [HE.out]; rfl, rfl⟩
  · by_cases h2 : b < a
    · have e : cmpI a b = 1 := by simp [cmpI, h, h2]
      have HE := Lib.hid e
      clear e
      go_enter Tryz.func167, Tryz.ntmps167
      go_wp2
      go_ret
      exact ⟨by rw [HE.out]; rfl, rfl⟩
    · have e : cmpI a b = 0 := by simp [cmpI, h, h2]
      have HE := Lib.hid e
      clear e
      go_enter Tryz.func167, Tryz.ntmps167
      go_wp2
      go_ret
      exact ⟨by rw [HE.out]; rfl, rfl⟩

set_option maxHeartbeats 400000 in
theorem cmpInt_any (a b : Int) (w : World) : Calls Tryz.prog 168 #[.int .i64 a, .int .i64 b] w fun e w' => e = .returned (.int .i64 (cmpI a b)) ∧ w = w' := by
  have t0 : (a != a) = false := by simp
  have t1 : (b != b) = false := by simp
  by_cases h : a < b
  · have e : cmpI a b = -1 := by simp [cmpI, h]
    have HE := Lib.hid e
    clear e
    go_enter Tryz.func168, Tryz.ntmps168
    go_wp2
    go_ret
    exact ⟨by rw [HE.out]; rfl, rfl⟩
  · by_cases h2 : b < a
    · have e : cmpI a b = 1 := by simp [cmpI, h, h2]
      have HE := Lib.hid e
      clear e
      go_enter Tryz.func168, Tryz.ntmps168
      go_wp2
      go_ret
      exact ⟨by rw [HE.out]; rfl, rfl⟩
    · have e : cmpI a b = 0 := by simp [cmpI, h, h2]
      have HE := Lib.hid e
      clear e
      go_enter Tryz.func168, Tryz.ntmps168
      go_wp2
      go_ret
      exact ⟨by rw [HE.out]; rfl, rfl⟩

set_option maxHeartbeats 1000000 in
theorem or_any (x y z : Int) (B : Nat) (w : World) (h0 : w.cell? ⟨B, 0, none⟩ = some (.int .i64 x)) (h1 : w.cell? ⟨B, 1, none⟩ = some (.int .i64 y)) (h2 : w.cell? ⟨B, 2, none⟩ = some (.int .i64 z)) :
    Calls Tryz.prog 166 #[.slice (some ⟨B, 0, none⟩) 3 3] w fun e w' => e = .returned (.int .i64 (orI x y z)) ∧ w = w' := by
  by_cases hx : x = 0
  · subst hx
    by_cases hy : y = 0
    · subst hy
      by_cases hz : z = 0
      · subst hz
        go_enter Tryz.func166, Tryz.ntmps166
        go_wp2
        go_rounds 5
        go_ret
        exact ⟨rfl, rfl⟩
      · have hz' : (z != 0) = true := by simpa using hz
        go_enter Tryz.func166, Tryz.ntmps166
        go_wp2
        go_rounds 5
        go_ret
        exact ⟨rfl, rfl⟩
    · have hy' : (y != 0) = true := by simpa using hy
      go_enter Tryz.func166, Tryz.ntmps166
      go_wp2
      go_rounds 5
      go_ret
      exact ⟨by simp [orI, hy], rfl⟩
  · have hx' : (x != 0) = true := by simpa using hx
    go_enter Tryz.func166, Tryz.ntmps166
    go_wp2
    go_rounds 5
    go_ret
    exact ⟨by simp [orI, hx], rfl⟩

/-- A value's order: kinds, numbers, texts. -/
def cmpV (k1 n1 : Int) (t1 : ByteArray) (k2 n2 : Int) (t2 : ByteArray) : Int := orI (cmpI k1 k2) (cmpI n1 n2) (Lib.compareBytes t1.data.toList t2.data.toList)

set_option maxHeartbeats 2000000 in
theorem compare_any (k1 n1 : Int) (t1 : ByteArray) (k2 n2 : Int) (t2 : ByteArray) (w : World) :
    Calls Tryz.prog 114 #[.agg #[.int .i64 k1, .int .i64 n1, .string t1], .agg #[.int .i64 k2, .int .i64 n2, .string t2]] w fun e w' =>
      e = .returned (.int .i64 (cmpV k1 n1 t1 k2 n2 t2)) ∧ Below w.heap.size w w' := by
  go_enter Tryz.func114, Tryz.ntmps114
  go_wp2_with fail
  go_region_held3 (fun w' => w'.cell? ⟨w.heap.size, 0, none⟩ = some (.int .i64 k1) ∧ w'.cell? ⟨w.heap.size, 1, none⟩ = some (.int .i64 n1) ∧ w'.cell? ⟨w.heap.size, 2, none⟩ = some (.string t1) ∧
     w'.cell? ⟨w.heap.size + 1, 0, none⟩ = some (.int .i64 k2) ∧ w'.cell? ⟨w.heap.size + 1, 1, none⟩ = some (.int .i64 n2) ∧ w'.cell? ⟨w.heap.size + 1, 2, none⟩ = some (.string t2)) (go_keep)
    (first | (go_at_call 167; refine (cmpKind_any _ _ _).mono ?_; rintro e w' ⟨rfl, rfl⟩)
           | (go_at_call 168; refine (cmpInt_any _ _ _).mono ?_; rintro e w' ⟨rfl, rfl⟩)
           | (go_at_call 169; refine (Tryz.strings_Compare _ _ _).mono ?_; rintro e w' ⟨rfl, rfl⟩)
           | (go_at_call 166; refine (or_any (cmpI k1 k2) (cmpI n1 n2) (Lib.compareBytes t1.data.toList t2.data.toList) _ _ (by simp [go_sem]) (by simp [go_sem]) (by simp [go_sem])).mono ?_; rintro e w' ⟨rfl, rfl⟩))
  go_wp2
  go_ret
  exact ⟨rfl, by repeat (first | exact Below.refl _ _ | refine bdrewN ?_ _ | refine bdrew ?_ | refine balloc ?_ _)⟩
end Go.Proofs.YtgjknekoehfdfaaGreatDoor
namespace Go.Proofs.YtgjknekoehfdfaaGreatDoor
open Go.RowKit
set_option linter.unusedVariables false

theorem showT_take (t : ByteArray) (k : Nat) (h : k < t.size) : showT (t.data.toList.take (k + 1)) = showT (t.data.toList.take k) ++ showB (((t[k]'h).toNat : Int)) := by
  have h' : k < t.data.toList.length := h
  rw [List.take_succ_eq_append_getElem h', showT, List.flatMap_append]
  simp only [List.flatMap_cons, List.flatMap_nil, List.append_nil, showT]
  rfl

set_option maxHeartbeats 4000000 in
set_option maxRecDepth 100000 in
theorem show_text (n : Int) (t : ByteArray) (w : World) (h : validB 2 n t.data.toList = true) :
    Calls Tryz.prog 137 #[.agg #[.int .i64 2, .int .i64 n, .string t]] w fun e w' => e = .returned (.string ⟨(showR 2 n t.data.toList).toArray⟩) ∧ Below w.heap.size w w' := by
  have hs64 : t.size ≤ 64 := by
    have hl : t.data.toList.length = t.size := rfl
    simp only [validB, hl, decide_eq_true_eq] at h
    omega
  have HE : Hid (showR 2 n t.data.toList = 34 :: (showT t.data.toList ++ [34])) := Lib.hid (by rw [showR, h]; rfl)
  have hB : IsBld (w.heap.size + 1 + 1) (w.heap.size + 1 + 1) [] (((w.alloc (.cells #[.int .i64 2, .int .i64 n, .string t] 74)).alloc (.cells #[.int .i64 2, .int .i64 n, .string t] 74)).alloc (.cells #[.pointer none, .slice none 0 0] 220)) := by
    have := Lib.fresh_isBuilder 220 5 ((w.alloc (.cells #[.int .i64 2, .int .i64 n, .string t] 74)).alloc (.cells #[.int .i64 2, .int .i64 n, .string t] 74))
    simp only [World.size_alloc] at this
    exact this
  have HB := Lib.hid hB
  have hb0 : Below w.heap.size w (((w.alloc (.cells #[.int .i64 2, .int .i64 n, .string t] 74)).alloc (.cells #[.int .i64 2, .int .i64 n, .string t] 74)).alloc (.cells #[.pointer none, .slice none 0 0] 220)) := balloc (balloc (balloc (Below.refl _ _) _) _) _
  have HB0 := Lib.hid hb0
  clear hB hb0
  go_enter Tryz.func137, Tryz.ntmps137
  go_wp2_with fail
  refine (valid_any 2 n t _).mono ?_
  rintro e w1 ⟨rfl, rfl⟩
  rw [h]
  go_wp2_with fail
  refine (writeByte_l (w.heap.size + 1 + 1) (w.heap.size + 1 + 1) [] 34 _ HB.out (by simp) (by simp) (by omega) (by omega)).mono ?_
  rintro e w2 ⟨rfl, hw2, hb2⟩
  have hc := hb2.cell (p := ⟨w.heap.size, 2, none⟩) (by simp; omega)
  simp [go_sem] at hc
  have hz := hb2.size
  simp at hz
  have HW2 := Lib.hid hw2
  have HB2 := Lib.hid hb2
  clear hw2 hb2
  have HH := Lib.hid h
  clear h
  go_wp2_with fail
  go_loopw [18] (fun ix wr => ∃ (k : Nat), k ≤ t.size ∧ ix = .int .i64 k ∧ BldAt (w.heap.size + 1 + 1) (w.heap.size + 1 + 1) (.pointer (some ⟨w.heap.size + 1 + 1, 0, none⟩)) (34 :: showT (t.data.toList.take k)) wr ∧ Below (w.heap.size + 1 + 1) w2 wr) (fun ix _ => t.size - (intOf ix).toNat)
  case atStart =>
    exact ⟨0, Nat.zero_le _, rfl, by simpa [showT] using HW2.out, Below.refl _ _⟩
  case round =>
    obtain ⟨k, hk, rfl, hbld, hbel⟩ := hrel
    have hc' := (hbel.cell (p := ⟨w.heap.size, 2, none⟩) (by simp; omega)).trans hc
    have hzr := hbel.size
    have HBL := Lib.hid hbld
    clear hbld
    have hsl := showT_len (t.data.toList.take k)
    have hsl2 : (t.data.toList.take k).length ≤ k := by rw [List.length_take]; exact Nat.min_le_left _ _
    by_cases hlt : k < t.size
    · have HT := Lib.hid (showT_take t k hlt)
      have hbd : ((t[k]'hlt).toNat : Int) ≤ 255 := by have := (t[k]'hlt).toNat_lt; omega
      have HBD := Lib.hid hbd
      clear hbd
      go_wp2_with fail
      refine (showByte_any (w.heap.size + 1 + 1) (w.heap.size + 1 + 1) _ _ wr (.inr HBL.out) (by simp; omega) (by omega) (by omega) HBD.out).mono ?_
      rintro e w3 ⟨rfl, hw3, hb3⟩
      have HW3 := Lib.hid hw3
      clear hw3
      go_wp2_with fail
      exact ⟨⟨k + 1, by omega, congrArg (Value.int .i64) (by omega), by rw [HT.out]; exact HW3.out, hbel.trans hb3⟩, by simp only [intOf]; omega⟩
    · have hke : k = t.size := by omega
      subst hke
      have htk : t.data.toList.take t.size = t.data.toList := List.take_of_length_le (Nat.le_refl _)
      rw [htk] at hsl
      have HT := Lib.hid htk
      clear htk hsl2
      go_wp2_with fail
      refine (writeByte_l (w.heap.size + 1 + 1) (w.heap.size + 1 + 1) _ 34 wr (.inr HBL.out) (by rw [HT.out]; simp only [List.length_cons]; have : t.data.toList.length = t.size := rfl; omega) (by omega) (by omega) (by omega)).mono ?_
      rintro e w3 ⟨rfl, hw3, hb3⟩
      have HW3 := Lib.hid hw3
      have hb3s := hb3.size
      clear hw3
      go_wp2_with fail
      refine (Tryz.Builder_String_any (w.heap.size + 1 + 1) (w.heap.size + 1 + 1) _ w3 (.inr HW3.out) (by omega)).mono ?_
      rintro e w4 ⟨rfl, hb4⟩
      go_wp2_with fail
      go_ret
      refine ⟨?_, HB0.out.trans ((((HB2.out.trans hbel).trans hb3).trans hb4).mono (by omega))⟩
      rw [HE.out, HT.out]
      rfl
end Go.Proofs.YtgjknekoehfdfaaGreatDoor
namespace Go.Proofs.YtgjknekoehfdfaaGreatDoor
open Go.RowKit
set_option linter.unusedVariables false

theorem show_any (k n : Int) (t : ByteArray) (w : World) (h0 : -9223372036854775808 ≤ n) (h1 : n ≤ 9223372036854775807) (hg : Glob w) :
    Calls Tryz.prog 137 #[.agg #[.int .i64 k, .int .i64 n, .string t]] w fun e w' => e = .returned (.string ⟨(showR k n t.data.toList).toArray⟩) ∧ Below w.heap.size w w' := by
  cases h : validB k n t.data.toList with
  | false => exact show_bad k n t w h
  | true =>
    have hk : k = 1 ∨ k = 2 := by
      simp only [validB, decide_eq_true_eq] at h
      omega
    rcases hk with rfl | rfl
    · exact show_num n t w h h0 h1 hg
    · exact show_text n t w h

theorem read12 : readR [45, 49, 50] = ⟨1, -12, [], 0, 0⟩ := by kernel_rfl
theorem show12 : showR 1 (-12) [] = [45, 49, 50] := by kernel_rfl

end Go.Proofs.YtgjknekoehfdfaaGreatDoor
namespace Go.Proofs.YtgjknekoehfdfaaGreatDoor
open Go.RowKit
set_option linter.unusedVariables false

theorem cmp_step {a b : List UInt8} {k : Nat} (ha : k < a.length) (hb : k < b.length) :
    Lib.compareBytes (a.drop k) (b.drop k) = if bt a k < bt b k then -1 else if bt b k < bt a k then 1 else Lib.compareBytes (a.drop (k + 1)) (b.drop (k + 1)) := by
  rw [List.drop_eq_getElem_cons ha, List.drop_eq_getElem_cons hb, Lib.compareBytes]
  have ea : bt a k = ((a[k]).toNat : Int) := by unfold bt; simp [ha]
  have eb : bt b k = ((b[k]).toNat : Int) := by unfold bt; simp [hb]
  rw [ea, eb]
  simp only [UInt8.lt_iff_toNat_lt, Int.ofNat_lt]
theorem cmp_end {a b : List UInt8} {k : Nat} (h : a.length ≤ k ∨ b.length ≤ k) (hk : k ≤ a.length) (hk2 : k ≤ b.length) :
    Lib.compareBytes (a.drop k) (b.drop k) = if a.length < b.length then -1 else if b.length < a.length then 1 else 0 := by
  cases ha : a.drop k with
  | nil =>
    have la : a.length ≤ k := List.drop_eq_nil_iff.1 ha
    cases hb : b.drop k with
    | nil =>
      have lb : b.length ≤ k := List.drop_eq_nil_iff.1 hb
      rw [if_neg (by omega), if_neg (by omega)]; rfl
    | cons x y =>
      have lb : k < b.length := by
        rcases Nat.lt_or_ge k b.length with h | h
        · exact h
        · rw [List.drop_of_length_le h] at hb; cases hb
      rw [if_pos (by omega)]; rfl
  | cons x y =>
    have la : k < a.length := by
      rcases Nat.lt_or_ge k a.length with h | h
      · exact h
      · rw [List.drop_of_length_le h] at ha; cases ha
    rw [List.drop_of_length_le (by omega : b.length ≤ k)]
    rw [if_neg (by omega), if_pos (by omega)]; rfl

set_option maxHeartbeats 4000000 in
theorem texts_any (a b : ByteArray) (w : World) (ha : a.size ≤ 281474976710656) :
    Calls Tryz.prog 122 #[.string a, .string b] w fun e w' => e = .returned (.int .i64 (Lib.compareBytes a.data.toList b.data.toList)) ∧ Below w.heap.size w w' := by
  have la : a.data.toList.length = a.size := rfl
  have lb : b.data.toList.length = b.size := rfl
  go_enter Tryz.func122, Tryz.ntmps122
  go_wp2_with fail
  go_loopw [5] (fun ix wr => ∃ k : Nat, k ≤ a.size ∧ k ≤ b.size ∧ ix = .int .i64 k ∧ Below w.heap.size w wr ∧ Lib.compareBytes a.data.toList b.data.toList = Lib.compareBytes (a.data.toList.drop k) (b.data.toList.drop k)) (fun ix _ => a.size - (intOf ix).toNat)
  case atStart => exact ⟨0, Nat.zero_le _, Nat.zero_le _, rfl, Below.refl _ _, rfl⟩
  case round =>
    obtain ⟨k, hka, hkb, rfl, hbel, hcmp⟩ := hrel
    by_cases hl : k < a.size ∧ k < b.size
    · obtain ⟨hla, hlb⟩ := hl
      have hst := cmp_step (a := a.data.toList) (b := b.data.toList) (by omega : k < a.data.toList.length) (by omega)
      have e1 := bt_of a k hla
      have e2 := bt_of b k hlb
      have HB := Lib.hid hbel
      generalize bt a.data.toList k = c1 at *
      generalize bt b.data.toList k = c2 at *
      by_cases h1 : c1 < c2
      · rw [if_pos h1] at hst
        have HE := Lib.hid (hcmp.trans hst)
        clear hcmp hst la lb hbel
        go_wp2_with fail
        go_quiet (fail)
        go_wp2_with fail
        go_ret
        exact ⟨by rw [HE.out]; rfl, by repeat (first | exact HB.out | refine bdrewN ?_ _ | refine bdrew ?_)⟩
      · rw [if_neg h1] at hst
        by_cases h2 : c2 < c1
        · rw [if_pos h2] at hst
          have HE := Lib.hid (hcmp.trans hst)
          clear hcmp hst la lb hbel
          go_wp2_with fail
          go_quiet (fail)
          go_wp2_with fail
          go_quiet (fail)
          go_wp2_with fail
          go_ret
          exact ⟨by rw [HE.out]; rfl, by repeat (first | exact HB.out | refine bdrewN ?_ _ | refine bdrew ?_)⟩
        · rw [if_neg h2] at hst
          have HE := Lib.hid (hcmp.trans hst)
          clear hcmp hst la lb hbel
          go_wp2_with fail
          go_quiet (fail)
          go_wp2_with fail
          go_quiet (fail)
          go_wp2_with fail
          go_round
          case rel => exact ⟨k + 1, by omega, by omega, by go_num, by repeat (first | exact HB.out | refine bdrewN ?_ _ | refine bdrew ?_), HE.out⟩
          case measure => simp [intOf]; omega
    · have hst := cmp_end (a := a.data.toList) (b := b.data.toList) (k := k) (by omega) (by omega) (by omega)
      rw [la, lb] at hst
      have HE := Lib.hid (hcmp.trans hst)
      have HB := Lib.hid hbel
      clear hcmp hst la lb hbel
      by_cases hla : k < a.size <;> by_cases hlb : k < b.size <;> first | (exfalso; omega) | skip
      all_goals
        by_cases h1 : a.size < b.size
        · have g1 : decide ((a.size : Int) < b.size) = true := by simp; omega
          go_wp2_with fail
          go_ret
          exact ⟨by rw [HE.out, if_pos h1]; try simp, HB.out⟩
        · have g1 : decide ((a.size : Int) < b.size) = false := by simp; omega
          by_cases h2 : b.size < a.size
          · have g2 : decide ((b.size : Int) < a.size) = true := by simp; omega
            go_wp2_with fail
            go_ret
            exact ⟨by rw [HE.out, if_neg h1, if_pos h2]; try simp, HB.out⟩
          · have g2 : decide ((b.size : Int) < a.size) = false := by simp; omega
            go_wp2_with fail
            go_ret
            exact ⟨by rw [HE.out, if_neg h1, if_neg h2]; try simp, HB.out⟩

theorem cmpV_cases (k1 n1 : Int) (t1 : ByteArray) (k2 n2 : Int) (t2 : ByteArray) :
    cmpV k1 n1 t1 k2 n2 t2 = if k1 ≠ k2 then (if k1 < k2 then -1 else 1) else if n1 ≠ n2 then (if n1 < n2 then -1 else 1) else Lib.compareBytes t1.data.toList t2.data.toList := by
  unfold cmpV orI cmpI
  (repeat' split) <;> first | rfl | omega

set_option maxHeartbeats 4000000 in
theorem refCompare_any (k1 n1 : Int) (t1 : ByteArray) (k2 n2 : Int) (t2 : ByteArray) (w : World) (ht : t1.size ≤ 281474976710656) :
    Calls Tryz.prog 182 #[.agg #[.int .i64 k1, .int .i64 n1, .string t1], .agg #[.int .i64 k2, .int .i64 n2, .string t2]] w fun e w' =>
      e = .returned (.int .i64 (cmpV k1 n1 t1 k2 n2 t2)) ∧ Below w.heap.size w w' := by
  have hc := cmpV_cases k1 n1 t1 k2 n2 t2
  have HB0 := Lib.hid (show Below w.heap.size w ((w.alloc (.cells #[.int .i64 k1, .int .i64 n1, .string t1] 74)).alloc (.cells #[.int .i64 k2, .int .i64 n2, .string t2] 74)) from balloc (balloc (Below.refl _ _) _) _)
  by_cases hk : k1 = k2
  · rw [if_neg (by simpa using hk)] at hc
    have q1 : (k1 != k2) = false := by simpa using hk
    by_cases hn : n1 = n2
    · rw [if_neg (by simpa using hn)] at hc
      have q2 : (n1 != n2) = false := by simpa using hn
      have HC := Lib.hid hc
      clear hc hk hn
      go_enter Tryz.func182, Tryz.ntmps182
      go_wp2_with fail
      refine (texts_any t1 t2 _ ht).mono ?_
      rintro e w1 ⟨rfl, hb1⟩
      have HB1 := Lib.hid (HB0.out.trans (hb1.mono (by simp; omega)))
      clear hb1
      go_wp2_with fail
      go_ret
      exact ⟨by rw [HC.out]; rfl, HB1.out⟩
    · rw [if_pos (by simpa using hn)] at hc
      have q2 : (n1 != n2) = true := by simpa using hn
      by_cases h : n1 < n2
      · rw [if_pos h] at hc
        have HC := Lib.hid hc
        clear hc hk hn
        go_enter Tryz.func182, Tryz.ntmps182
        go_wp2_with fail
        go_ret
        exact ⟨by rw [HC.out]; rfl, HB0.out⟩
      · rw [if_neg h] at hc
        have HC := Lib.hid hc
        clear hc hk hn
        go_enter Tryz.func182, Tryz.ntmps182
        go_wp2_with fail
        go_ret
        exact ⟨by rw [HC.out]; rfl, HB0.out⟩
  · rw [if_pos (by simpa using hk)] at hc
    have q1 : (k1 != k2) = true := by simpa using hk
    by_cases h : k1 < k2
    · rw [if_pos h] at hc
      have HC := Lib.hid hc
      clear hc hk
      go_enter Tryz.func182, Tryz.ntmps182
      go_wp2_with fail
      go_ret
      exact ⟨by rw [HC.out]; rfl, HB0.out⟩
    · rw [if_neg h] at hc
      have HC := Lib.hid hc
      clear hc hk
      go_enter Tryz.func182, Tryz.ntmps182
      go_wp2_with fail
      go_ret
      exact ⟨by rw [HC.out]; rfl, HB0.out⟩

end Go.Proofs.YtgjknekoehfdfaaGreatDoor
namespace Go.Proofs.YtgjknekoehfdfaaGreatDoor
open Go.RowKit
set_option linter.unusedVariables false

set_option maxHeartbeats 2000000 in
theorem refValid_any (k n : Int) (t : ByteArray) (w : World) :
    Calls Tryz.prog 202 #[.agg #[.int .i64 k, .int .i64 n, .string t]] w fun e w' => e = .returned (.bool (validB k n t.data.toList)) ∧ Below w.heap.size w w' := by
  have hl : t.data.toList.length = t.size := rfl
  by_cases k1 : k = 1
  · subst k1
    have HE : Hid (validB 1 n t.data.toList = decide (t.size = 0)) := Lib.hid (by simp only [validB, ← hl, List.length_eq_zero_iff]; simp)
    by_cases h0 : t.size = 0
    · have q : ((t.size : Int) == 0) = true := by simp [h0]
      have HE2 : Hid (validB 1 n t.data.toList = true) := Lib.hid (by rw [HE.out]; simp [h0])
      clear h0 hl
      go_enter Tryz.func202, Tryz.ntmps202
      go_wp2
      go_ret
      exact ⟨by rw [HE2.out]; rfl, balloc (Below.refl _ _) _⟩
    · have q : ((t.size : Int) == 0) = false := beq_eq_false_iff_ne.2 (by omega)
      have q' : (t.size == 0) = false := beq_eq_false_iff_ne.2 (by omega)
      have HE2 : Hid (validB 1 n t.data.toList = false) := Lib.hid (by rw [HE.out]; simp [h0])
      clear h0 hl
      go_enter Tryz.func202, Tryz.ntmps202
      go_wp2
      go_ret
      exact ⟨by rw [HE2.out]; rfl, balloc (Below.refl _ _) _⟩
  · have q1 : (k == 1) = false := by simpa using k1
    have HE : Hid (validB k n t.data.toList = decide (k = 2 ∧ n = 0 ∧ t.size ≤ 64)) := Lib.hid (by simp only [validB, hl, k1]; simp)
    clear hl
    by_cases k2 : k = 2
    · have q2 : (k == 2) = true := by simpa using k2
      by_cases n0 : n = 0
      · have q3 : (n == 0) = true := by simpa using n0
        by_cases h64 : t.size ≤ 64
        · have HE2 : Hid (validB k n t.data.toList = true) := Lib.hid (by rw [HE.out]; simp [k2, n0, h64])
          have h64' : decide ((t.size : Int) ≤ 64) = true := by simp; omega
          clear k1 k2 n0
          go_enter Tryz.func202, Tryz.ntmps202
          go_wp2
          go_ret
          exact ⟨by rw [HE2.out]; rfl, balloc (Below.refl _ _) _⟩
        · have HE2 : Hid (validB k n t.data.toList = false) := Lib.hid (by rw [HE.out]; simp [k2, n0]; omega)
          have h64' : decide ((t.size : Int) ≤ 64) = false := by simp; omega
          clear k1 k2 n0 h64
          go_enter Tryz.func202, Tryz.ntmps202
          go_wp2
          go_ret
          exact ⟨by rw [HE2.out]; rfl, balloc (Below.refl _ _) _⟩
      · have q3 : (n == 0) = false := by simpa using n0
        have HE2 : Hid (validB k n t.data.toList = false) := Lib.hid (by rw [HE.out]; simp [n0])
        clear k1 k2 n0
        go_enter Tryz.func202, Tryz.ntmps202
        go_wp2
        go_ret
        exact ⟨by rw [HE2.out]; rfl, balloc (Below.refl _ _) _⟩
    · have q2 : (k == 2) = false := by simpa using k2
      have HE2 : Hid (validB k n t.data.toList = false) := Lib.hid (by rw [HE.out]; simp [k2])
      clear k1 k2
      go_enter Tryz.func202, Tryz.ntmps202
      go_wp2
      go_ret
      exact ⟨by rw [HE2.out]; rfl, balloc (Below.refl _ _) _⟩

theorem valid_b (k n : Int) (t : ByteArray) (w : World) :
    Calls Tryz.prog 143 #[.agg #[.int .i64 k, .int .i64 n, .string t]] w fun e w' => e = .returned (.bool (validB k n t.data.toList)) ∧ Below w.heap.size w w' :=
  (valid_any k n t w).mono fun _ _ ⟨a, b⟩ => ⟨a, by rw [b]; exact balloc (Below.refl _ _) _⟩

end Go.Proofs.YtgjknekoehfdfaaGreatDoor
namespace Go.Proofs.YtgjknekoehfdfaaGreatDoor
open Go.RowKit
set_option linter.unusedVariables false

theorem bytes_conv {P : Program} {w : World} {g e src dst n cap : Nat} {l : List UInt8} (hs : P.underlying src = some (.slice e)) (he : P.underlying e = some (.int .u8)) (hd : P.underlying dst = some .string)
    (hl : (Lib.byteCells l).length = n) (h : ∀ j v, (Lib.byteCells l)[j]? = some v → w.cell? ((⟨g, 0, none⟩ : Addr).add j) = some v) : (convert src dst (.slice (some ⟨g, 0, none⟩) n cap)).run P w = .ok (.string ⟨l.toArray⟩) w := by
  rw [run_convert_bytes_string w src dst e _ _ _ hs he hd]
  have hc := run_loadCells_list (P := P) w ⟨g, 0, none⟩ (Lib.byteCells l) h
  rw [hl] at hc
  have e : Lib.byteCells l = (l.map fun b => (b.toNat : Int)).map (Value.int .u8) := by simp [Lib.byteCells]
  rw [e] at hc
  rw [run_bytesToString w ⟨g, 0, none⟩ n cap _ hc]
  congr 2
  have : ∀ (l : List UInt8) (a : ByteArray), (l.map fun b => (b.toNat : Int)).foldl (fun r (n : Int) => r.push (UInt8.ofNat n.toNat)) a = ⟨(a.data.toList ++ l).toArray⟩ := by
    intro l
    induction l with
    | nil => intro a; simp
    | cons x l ih =>
      intro a
      simp only [List.map_cons, List.foldl_cons]
      rw [ih]
      simp [ByteArray.push]
  rw [this]
  simp

theorem conv1 {w : World} {g cap : Nat} {c : Int} (h0 : 0 ≤ c) (h1 : c ≤ 255) (h : w.cell? ⟨g, 0, none⟩ = some (.int .u8 c)) :
    (convert 218 9 (.slice (some ⟨g, 0, none⟩) 1 cap)).run Tryz.prog w = .ok (.string ⟨#[UInt8.ofNat c.toNat]⟩) w := by
  refine bytes_conv (l := [UInt8.ofNat c.toNat]) Tryz.underlying218 Tryz.underlying5 Tryz.underlying9 rfl ?_
  intro j v hj
  match j with
  | 0 =>
    simp only [Lib.byteCells, List.map_cons, List.map_nil, List.getElem?_cons_zero, Option.some.injEq] at hj
    rw [← hj, ← byte_of c h0 h1]
    exact h
  | j + 1 => simp [Lib.byteCells] at hj

theorem conv2 {w : World} {g cap : Nat} {a b : UInt8} (h : w.cell? ⟨g, 0, none⟩ = some (.int .u8 a.toNat)) (h2 : w.cell? ⟨g, 1, none⟩ = some (.int .u8 b.toNat)) :
    (convert 218 9 (.slice (some ⟨g, 0, none⟩) 2 cap)).run Tryz.prog w = .ok (.string ⟨#[a, b]⟩) w := by
  refine bytes_conv (l := [a, b]) Tryz.underlying218 Tryz.underlying5 Tryz.underlying9 rfl ?_
  intro j v hj
  match j with
  | 0 => simp only [Lib.byteCells, List.map_cons, List.map_nil, List.getElem?_cons_zero, Option.some.injEq] at hj; rw [← hj]; exact h
  | 1 => simp only [Lib.byteCells, List.map_cons, List.map_nil, List.getElem?_cons_succ, List.getElem?_cons_zero, Option.some.injEq] at hj; rw [← hj]; exact h2
  | j + 2 => simp [Lib.byteCells] at hj

set_option maxHeartbeats 4000000 in
set_option maxRecDepth 100000 in
theorem refByte_any (c : Int) (w : World) (h0 : 0 ≤ c) (h1 : c ≤ 255) :
    Calls Tryz.prog 203 #[.int .u8 c] w fun e w' => e = .returned (.string ⟨(showB c).toArray⟩) ∧ Below w.heap.size w w' := by
  by_cases c1 : c = 34
  · subst c1
    go_enter Tryz.func203, Tryz.ntmps203
    go_wp2_with fail
    go_ret
    exact ⟨rfl, Below.refl _ _⟩
  by_cases c2 : c = 92
  · subst c2
    go_enter Tryz.func203, Tryz.ntmps203
    go_wp2_with fail
    go_ret
    exact ⟨rfl, Below.refl _ _⟩
  by_cases c3 : c = 10
  · subst c3
    go_enter Tryz.func203, Tryz.ntmps203
    go_wp2_with fail
    go_ret
    exact ⟨rfl, Below.refl _ _⟩
  by_cases c4 : c = 9
  · subst c4
    go_enter Tryz.func203, Tryz.ntmps203
    go_wp2_with fail
    go_ret
    exact ⟨rfl, Below.refl _ _⟩
  have q1 : (c == 34) = false := by simpa using c1
  have q2 : (c == 92) = false := by simpa using c2
  have q3 : (c == 10) = false := by simpa using c3
  have q4 : (c == 9) = false := by simpa using c4
  by_cases c5 : 32 ≤ c ∧ c ≤ 126
  · have HE : Hid (showB c = [UInt8.ofNat c.toNat]) := Lib.hid (by unfold showB; rw [if_neg (by omega), if_neg c3, if_neg c4, if_pos c5])
    obtain ⟨c6, c7⟩ := c5
    clear c1 c2 c3 c4
    have hc : (w.alloc (.cells #[.int .u8 c] 5)).cell? ⟨w.heap.size, 0, none⟩ = some (.int .u8 c) := by simp
    have hcv := conv1 (cap := 1) h0 h1 hc
    have HB0 := Lib.hid (show Below w.heap.size w (w.alloc (.cells #[.int .u8 c] 5)) from balloc (Below.refl _ _) _)
    go_enter Tryz.func203, Tryz.ntmps203
    go_wp2_with fail
    go_ret
    exact ⟨by rw [HE.out]; rfl, HB0.out⟩
  · have HE : Hid (showB c = [92, 120, hexd (c / 16), hexd (c % 16)]) := Lib.hid (by unfold showB; rw [if_neg (by omega), if_neg c3, if_neg c4, if_neg c5])
    have c6 : c < 32 ∨ 126 < c := by omega
    have g1 := hexd_at (c / 16) (by omega) (by omega)
    have g2 := hexd_at (c % 16) (by omega) (by omega)
    have hc0 : ((w.alloc (.cells #[.int .u8 ((hexd (c / 16)).toNat : Int), .int .u8 ((hexd (c % 16)).toNat : Int)] 5)).drew).cell? ⟨w.heap.size, 0, none⟩ = some (.int .u8 ((hexd (c / 16)).toNat : Int)) := by simp
    have hc1 : ((w.alloc (.cells #[.int .u8 ((hexd (c / 16)).toNat : Int), .int .u8 ((hexd (c % 16)).toNat : Int)] 5)).drew).cell? ⟨w.heap.size, 1, none⟩ = some (.int .u8 ((hexd (c % 16)).toNat : Int)) := by simp
    have hcv := conv2 (cap := 2) hc0 hc1
    have HB0 := Lib.hid (show Below w.heap.size w ((w.alloc (.cells #[.int .u8 ((hexd (c / 16)).toNat : Int), .int .u8 ((hexd (c % 16)).toNat : Int)] 5)).drew) from bdrew (balloc (Below.refl _ _) _))
    clear c1 c2 c3 c4 c5 hc0 hc1
    rcases c6 with c6 | c6
    all_goals
      go_enter Tryz.func203, Tryz.ntmps203
      go_wp2_with fail
      go_region
      all_goals go_wp2_with fail
      all_goals go_ret
      all_goals exact ⟨by rw [HE.out]; rfl, HB0.out⟩
end Go.Proofs.YtgjknekoehfdfaaGreatDoor
namespace Go.Proofs.YtgjknekoehfdfaaGreatDoor
open Go.RowKit
set_option linter.unusedVariables false

theorem dec_step {n : Nat} (h : 10 ≤ n) : Lib.decDigits n = Lib.decDigits (n / 10) ++ [UInt8.ofNat (48 + n % 10)] := by
  conv => lhs; rw [Lib.decDigits, dif_neg (by omega)]
theorem dec_last {n : Nat} (h : n < 10) : Lib.decDigits n = [UInt8.ofNat (48 + n % 10)] := by
  rw [Lib.decDigits, dif_pos h, Nat.mod_eq_of_lt h]

set_option maxHeartbeats 4000000 in
set_option maxRecDepth 100000 in
theorem digits_any (u : Nat) (w : World) (hu : u ≤ 18446744073709551615) :
    Calls Tryz.prog 151 #[.int .u64 u] w fun e w' => e = .returned (.string ⟨(Lib.decDigits u).toArray⟩) ∧ Below w.heap.size w w' := by
  go_enter Tryz.func151, Tryz.ntmps151
  go_wp2_with fail
  go_loopw [0, 3] (fun m s wr => ∃ (n : Nat) (l : List UInt8), m = .int .u64 n ∧ s = .string ⟨l.toArray⟩ ∧ n ≤ 18446744073709551615 ∧ Below w.heap.size w wr ∧ Lib.decDigits u = Lib.decDigits n ++ l) (fun m _ _ => (intOf m).toNat)
  case atStart => exact ⟨u, [], rfl, rfl, hu, Below.refl _ _, by simp⟩
  case round =>
    obtain ⟨n, l, rfl, rfl, hn, hbel, hd⟩ := hrel
    have hc : (wr.alloc (.cells #[.int .u8 (48 + (n : Int) % 10)] 5)).cell? ⟨wr.heap.size, 0, none⟩ = some (.int .u8 (48 + (n : Int) % 10)) := by simp
    have hcv := conv1 (cap := 1) (c := 48 + (n : Int) % 10) (by omega) (by omega) hc
    have hsz := hbel.size
    have hll : 1 + l.length ≤ 9223372036854775807 := by
      have h1 := congrArg List.length hd
      rw [List.length_append, Lib.decDigits_length] at h1
      have h2 := Lib.nDigits_le20 u (by omega)
      omega
    have hcc : (ByteArray.mk #[48 + UInt8.ofNat (n % 10)] ++ ByteArray.mk l.toArray) = ⟨(UInt8.ofNat (48 + n % 10) :: l).toArray⟩ := by
      apply ByteArray.ext
      simp
    have HCC := Lib.hid hcc
    clear hcc
    have HB := Lib.hid (show Below w.heap.size w (wr.alloc (.cells #[.int .u8 (48 + (n : Int) % 10)] 5)) from balloc hbel _)
    have HD := Lib.hid hd
    clear hbel hd hc
    by_cases h10 : n < 10
    · have hz : ((n : Int) / 10 == 0) = true := by simp; omega
      have HL := Lib.hid (dec_last h10)
      go_wp2_with fail
      go_ret
      have hE := HD.out
      rw [HL.out] at hE
      exact ⟨by rw [HCC.out, hE]; rfl, HB.out⟩
    · have hz : ((n : Int) / 10 == 0) = false := beq_eq_false_iff_ne.2 (by omega)
      have HL := Lib.hid (dec_step (show 10 ≤ n by omega))
      go_wp2_with fail
      go_round
      case rel => exact ⟨n / 10, UInt8.ofNat (48 + n % 10) :: l, by go_num, by rw [HCC.out], by omega, HB.out, by rw [HD.out, HL.out]; simp⟩
      case measure => simp [intOf]; omega

set_option maxHeartbeats 4000000 in
set_option maxRecDepth 100000 in
theorem number_any (n : Int) (w : World) (h0 : -9223372036854775808 ≤ n) (h1 : n ≤ 9223372036854775807) :
    Calls Tryz.prog 85 #[.int .i64 n] w fun e w' => e = .returned (.string ⟨(Lib.itoa n).toArray⟩) ∧ Below w.heap.size w w' := by
  by_cases hn : n < 0
  · obtain ⟨u, rfl⟩ : ∃ u : Nat, n = -(u : Int) := ⟨n.natAbs, by omega⟩
    have HE : Hid (Lib.itoa (-(u : Int)) = 45 :: Lib.decDigits u) := Lib.hid (Lib.itoa_neg u (by omega))
    have hd := digits_any u w (by omega)
    have HD := Lib.hid hd
    clear hd
    have hl := Lib.decDigits_length u
    have hl2 := Lib.nDigits_le20 u (by omega)
    have hll : 1 + (Lib.decDigits u).length ≤ 9223372036854775807 := by omega
    have h2 : IntKind.u64.wrap (-IntKind.u64.wrap (-(u : Int))) = u := by
      unfold IntKind.wrap
      simp [IntKind.signed, IntKind.bits]
      omega
    go_enter Tryz.func85, Tryz.ntmps85
    go_wp2_with fail
    refine HD.out.mono ?_
    rintro e w1 ⟨rfl, hb1⟩
    have HB1 := Lib.hid hb1
    clear hb1
    go_wp2_with fail
    go_ret
    refine ⟨?_, HB1.out⟩
    rw [HE.out]
    have : (ByteArray.mk #[45] ++ ByteArray.mk (Lib.decDigits u).toArray) = ⟨(45 :: Lib.decDigits u).toArray⟩ := by
      apply ByteArray.ext; simp
    rw [← this]; rfl
  · obtain ⟨u, rfl⟩ : ∃ u : Nat, n = u := ⟨n.toNat, by omega⟩
    have HE : Hid (Lib.itoa (u : Int) = Lib.decDigits u) := Lib.hid (Lib.itoa_nonneg u)
    have hd := digits_any u w (by omega)
    have HD := Lib.hid hd
    clear hd
    go_enter Tryz.func85, Tryz.ntmps85
    go_wp2_with fail
    refine HD.out.mono ?_
    rintro e w1 ⟨rfl, hb1⟩
    have HB1 := Lib.hid hb1
    clear hb1
    go_wp2_with fail
    go_ret
    exact ⟨by rw [HE.out]; rfl, HB1.out⟩

theorem ref_show_bad (k n : Int) (t : ByteArray) (w : World) (h : validB k n t.data.toList = false) :
    Calls Tryz.prog 150 #[.agg #[.int .i64 k, .int .i64 n, .string t]] w fun e w' => e = .returned (.string ⟨(showR k n t.data.toList).toArray⟩) ∧ Below w.heap.size w w' := by
  have HB0 := Lib.hid (show Below w.heap.size w (w.alloc (.cells #[.int .i64 k, .int .i64 n, .string t] 74)) from balloc (Below.refl _ _) _)
  have hr := fun W => refValid_any k n t W
  rw [h] at hr
  have HR := Lib.hid hr
  have HE : Hid (showR k n t.data.toList = []) := Lib.hid (by unfold showR; rw [h]; rfl)
  clear hr h
  go_enter Tryz.func150, Tryz.ntmps150
  go_wp2_with fail
  refine (HR.out _).mono ?_
  rintro e w1 ⟨rfl, hb1⟩
  have HB1 := Lib.hid (HB0.out.trans (hb1.mono (by simp)))
  clear hb1
  go_wp2_with fail
  go_ret
  exact ⟨by rw [HE.out]; rfl, HB1.out⟩

set_option maxHeartbeats 4000000 in
set_option maxRecDepth 100000 in
theorem ref_show_good (k n : Int) (t : ByteArray) (w : World) (h : validB k n t.data.toList = true) (h0 : -9223372036854775808 ≤ n) (h1 : n ≤ 9223372036854775807) :
    Calls Tryz.prog 150 #[.agg #[.int .i64 k, .int .i64 n, .string t]] w fun e w' => e = .returned (.string ⟨(showR k n t.data.toList).toArray⟩) ∧ Below w.heap.size w w' := by
  have HB0 := Lib.hid (show Below w.heap.size w (w.alloc (.cells #[.int .i64 k, .int .i64 n, .string t] 74)) from balloc (Below.refl _ _) _)
  have hr := fun W => refValid_any k n t W
  rw [h] at hr
  have HR := Lib.hid hr
  have hE : showR k n t.data.toList = if k = 1 then Lib.itoa n else 34 :: (showT t.data.toList ++ [34]) := by unfold showR; rw [h]; rfl
  have hv := h
  simp only [validB, decide_eq_true_eq] at hv
  clear hr
  by_cases hk : k = 1
  · rw [if_pos hk] at hE
    have HE := Lib.hid hE
    have q1 : (k == 1) = true := by simpa using hk
    clear hE h hv hk
    go_enter Tryz.func150, Tryz.ntmps150
    go_wp2_with fail
    refine (HR.out _).mono ?_
    rintro e w1 ⟨rfl, hb1⟩
    have a0 := hb1.cell (p := ⟨w.heap.size, 0, none⟩) (by simp)
    have a1 := hb1.cell (p := ⟨w.heap.size, 1, none⟩) (by simp)
    simp [go_sem] at a0 a1
    have hz := hb1.size
    simp at hz
    have HB1 := Lib.hid (HB0.out.trans (hb1.mono (by simp)))
    clear hb1
    go_wp2_with fail
    refine (number_any n _ h0 h1).mono ?_
    rintro e w2 ⟨rfl, hb2⟩
    have HB2 := Lib.hid (HB1.out.trans (hb2.mono (by omega)))
    clear hb2
    go_wp2_with fail
    go_ret
    exact ⟨by rw [HE.out]; rfl, HB2.out⟩
  · rw [if_neg hk] at hE
    have HE := Lib.hid hE
    have q1 : (k == 1) = false := by simpa using hk
    have hs64 : t.size ≤ 64 := by
      have hl : t.data.toList.length = t.size := rfl
      omega
    clear hE h hv hk
    go_enter Tryz.func150, Tryz.ntmps150
    go_wp2_with fail
    refine (HR.out _).mono ?_
    rintro e w1 ⟨rfl, hb1⟩
    have a0 := hb1.cell (p := ⟨w.heap.size, 0, none⟩) (by simp)
    have a2 := hb1.cell (p := ⟨w.heap.size, 2, none⟩) (by simp)
    simp [go_sem] at a0 a2
    have hz := hb1.size
    simp at hz
    have HB1 := Lib.hid (HB0.out.trans (hb1.mono (by simp)))
    clear hb1
    go_wp2_with fail
    go_loopw [3, 4] (fun s ix wr => ∃ (k : Nat) (l : List UInt8), k ≤ t.size ∧ ix = .int .i64 k ∧ s = .string ⟨l.toArray⟩ ∧ l = 34 :: showT (t.data.toList.take k) ∧ Below (w.heap.size + 1) w1 wr) (fun _ ix _ => t.size - (intOf ix).toNat)
    case atStart => exact ⟨0, [34], Nat.zero_le _, rfl, rfl, by simp [showT], Below.refl _ _⟩
    case round =>
      obtain ⟨k, l, hk, rfl, rfl, hl, hbel⟩ := hrel
      have hc' := (hbel.cell (p := ⟨w.heap.size, 2, none⟩) (by simp)).trans a2
      have hzr := hbel.size
      have hsl := showT_len (t.data.toList.take k)
      have hsl2 : (t.data.toList.take k).length ≤ k := by rw [List.length_take]; exact Nat.min_le_left _ _
      have hll : l.length ≤ 257 := by rw [hl, List.length_cons]; omega
      by_cases hlt : k < t.size
      · have hT := showT_take t k hlt
        have hbd : ((t[k]'hlt).toNat : Int) ≤ 255 := by have := (t[k]'hlt).toNat_lt; omega
        have hB := fun W => refByte_any ((t[k]'hlt).toNat : Int) W (by omega) hbd
        have hbl : (showB ((t[k]'hlt).toNat : Int)).length ≤ 4 := by unfold showB; (repeat' split) <;> simp
        generalize hg : showB ((t[k]'hlt).toNat : Int) = sb at *
        have hcc : (ByteArray.mk l.toArray ++ ByteArray.mk sb.toArray) = ⟨(l ++ sb).toArray⟩ := by apply ByteArray.ext; simp
        have hll2 : l.length + sb.length ≤ 9223372036854775807 := by omega
        have HCC := Lib.hid hcc
        have HT : Hid (l ++ sb = 34 :: showT (t.data.toList.take (k + 1))) := Lib.hid (by rw [hl, hT]; try rfl)
        have HBB := Lib.hid hB
        clear hT hbd hB hbl hg hcc hl hsl hsl2
        go_wp2_with fail
        refine (HBB.out _).mono ?_
        rintro e w3 ⟨rfl, hb3⟩
        have HB3 := Lib.hid (hbel.trans (hb3.mono (by omega)))
        clear hb3
        go_wp2_with fail
        go_round
        case rel => exact ⟨k + 1, l ++ sb, by omega, by go_num, by rw [HCC.out], HT.out, HB3.out⟩
        case measure => simp [intOf]; omega
      · have hke : k = t.size := by omega
        subst hke
        have htk : t.data.toList.take t.size = t.data.toList := List.take_of_length_le (Nat.le_refl _)
        rw [htk] at hl
        have hcc : (ByteArray.mk l.toArray ++ ByteArray.mk #[34]) = ⟨(34 :: (showT t.data.toList ++ [34])).toArray⟩ := by apply ByteArray.ext; rw [hl]; simp
        have HCC := Lib.hid hcc
        have hll2 : l.length + 1 ≤ 9223372036854775807 := by omega
        have HB3 := Lib.hid hbel
        clear hcc hl hsl hsl2 htk hbel
        go_wp2_with fail
        go_ret
        exact ⟨by rw [HE.out, ← HCC.out]; rfl, HB1.out.trans (HB3.out.mono (by omega))⟩

theorem refShow_any (k n : Int) (t : ByteArray) (w : World) (h0 : -9223372036854775808 ≤ n) (h1 : n ≤ 9223372036854775807) :
    Calls Tryz.prog 150 #[.agg #[.int .i64 k, .int .i64 n, .string t]] w fun e w' => e = .returned (.string ⟨(showR k n t.data.toList).toArray⟩) ∧ Below w.heap.size w w' := by
  cases h : validB k n t.data.toList with
  | false => exact ref_show_bad k n t w h
  | true => exact ref_show_good k n t w h h0 h1

end Go.Proofs.YtgjknekoehfdfaaGreatDoor
namespace Go.Proofs.YtgjknekoehfdfaaGreatDoor
open Go.RowKit
set_option linter.unusedVariables false

def low (c : UInt8) : UInt8 := if 65 ≤ c.toNat ∧ c.toNat ≤ 70 then c + 32 else c
def lows (l : List UInt8) (k : Nat) : List UInt8 := (l.take k).map low ++ l.drop k

/-- A converted text's row, its first four bytes. -/
def SmR (w : World) (g : Nat) (l : List UInt8) : Prop :=
  ∃ cs : Array Value, w.heap[g]? = some (.cells cs 5 (cs.size, cs.size + 1)) ∧ 4 ≤ cs.size ∧ ∀ j, j < 4 → cs[j]? = some (.int .u8 ((l.getD j 0).toNat : Int))

theorem SmR.cell {w : World} {g : Nat} {l : List UInt8} (h : SmR w g l) {j : Nat} (hj : j < 4) : w.cell? ⟨g, j, none⟩ = some (.int .u8 ((l.getD j 0).toNat : Int)) := by
  obtain ⟨cs, h1, h2, h3⟩ := h
  rw [cell_of_row w g j cs _ _ h1]
  exact h3 j hj
theorem SmR.frozen {w : World} {g : Nat} {l : List UInt8} (h : SmR w g l) {j : Nat} (hj : j < 4) : w.frozen? ⟨g, j, none⟩ = false := by
  obtain ⟨cs, h1, h2, h3⟩ := h
  simp [World.frozen?, h1]
  omega
theorem SmR.set_ {w : World} {g : Nat} {l l' : List UInt8} (h : SmR w g l) {j : Nat} {u : Value} (hj : j < 4) (hu : u = .int .u8 ((l'.getD j 0).toNat : Int)) (hl : ∀ i, i < 4 → i ≠ j → l'.getD i 0 = l.getD i 0) : SmR (w.setCell ⟨g, j, none⟩ u) g l' := by
  obtain ⟨cs, h1, h2, h3⟩ := h
  refine ⟨cs.setIfInBounds j u, ?_, by simpa using h2, fun i hi => ?_⟩
  · simp [World.setCell, Array.getElem?_modify, h1]
  · rw [Array.getElem?_setIfInBounds]
    by_cases e : j = i
    · subst e
      rw [if_pos rfl, if_pos (by omega), hu]
    · rw [if_neg e, hl i hi (fun k => e k.symm)]
      exact h3 i hi
theorem SmR.lt {w : World} {g : Nat} {l : List UInt8} (h : SmR w g l) : g < w.heap.size := by
  obtain ⟨cs, h1, _⟩ := h
  rcases Nat.lt_or_ge g w.heap.size with hlt | hge
  · exact hlt
  · rw [Array.getElem?_eq_none hge] at h1; cases h1

theorem below_bytes (w : World) (e : TypeId) (s : ByteArray) : Below w.heap.size w (Lib.bytesWorld w e s) :=
  ⟨rfl, rfl, rfl, by rw [Lib.bytesWorld_size]; omega, fun k hk => Lib.bytesWorld_at_old w e s k hk⟩

theorem lows_get (l : List UInt8) (k j : Nat) (hj : j < l.length) : (lows l k).getD j 0 = if j < k then low (l.getD j 0) else l.getD j 0 := by
  unfold lows
  simp only [List.getD_eq_getElem?_getD]
  by_cases h : j < k
  · rw [if_pos h, List.getElem?_append_left (by simp; omega)]
    simp [h, hj]
  · rw [if_neg h, List.getElem?_append_right (by simp; omega), List.getElem?_drop]
    congr 2
    simp; omega

set_option maxHeartbeats 4000000 in
set_option maxRecDepth 100000 in
theorem small_any (s : ByteArray) (w : World) (hs : s.size = 4) :
    Calls Tryz.prog 254 #[.string s] w fun e w' => e = .returned (.string ⟨(s.data.toList.map low).toArray⟩) ∧ Below w.heap.size w w' := by
  have hcv := Lib.run_convert_string_bytes (P := Tryz.prog) w 9 218 5 s (u := .string) Tryz.underlying9 Tryz.underlying218 Tryz.underlying5
  have hbe := below_bytes w 5 s
  have hl4 : s.data.toList.length = 4 := hs
  have hcs : (Lib.bytesCells w 5 s).size = 4 + (grownCap w s.size 0 5 - s.size) := by
    have : s.data.size = 4 := hs
    simp [Lib.bytesCells, this]
  have hR : SmR (Lib.bytesWorld w 5 s) w.heap.size (lows s.data.toList 0) := by
    refine ⟨_, Lib.bytesWorld_at_new w 5 s, by omega, fun j hj => ?_⟩
    have h := Lib.bytesWorld_cell w 5 s j (by omega)
    rw [cell_of_row _ _ j _ _ _ (Lib.bytesWorld_at_new w 5 s)] at h
    rw [h]
    simp [lows]
  have hz := Lib.bytesWorld_size w 5 s
  rw [hs] at hcv
  generalize Lib.bytesWorld w 5 s = W1 at *
  generalize grownCap w 4 0 5 = cap at *
  have HB := Lib.hid hbe
  have HR := Lib.hid hR
  have HL := Lib.hid hl4
  clear hbe hR hl4 hcs
  go_enter Tryz.func254, Tryz.ntmps254
  go_wp2_with fail
  go_loopw [9] (fun ix wr => ∃ k : Nat, k ≤ 4 ∧ ix = .int .i64 k ∧ Below w.heap.size w wr ∧ SmR wr w.heap.size (lows s.data.toList k)) (fun ix _ => 4 - (intOf ix).toNat)
  case atStart => exact ⟨0, by omega, rfl, HB.out, HR.out⟩
  case round =>
    obtain ⟨k, hk, rfl, hbel, hrow⟩ := hrel
    by_cases hlt : k < 4
    · have c0 := hrow.cell hlt
      have f0 := hrow.frozen hlt
      have hg := lows_get s.data.toList k k (by have := HL.out; omega)
      rw [if_neg (by omega)] at hg
      rw [hg] at c0
      have hcb := (s.data.toList.getD k 0).toNat_lt
      by_cases hc : 65 ≤ (s.data.toList.getD k 0).toNat ∧ (s.data.toList.getD k 0).toNat ≤ 70
      · obtain ⟨hc1, hc2⟩ := hc
        have hnx : SmR (wr.setCell ⟨w.heap.size, k, none⟩ (.int .u8 (((s.data.toList.getD k 0).toNat : Int) + 32))) w.heap.size (lows s.data.toList (k + 1)) := by
          refine hrow.set_ hlt ?_ ?_
          · rw [lows_get _ _ _ (by have := HL.out; omega), if_pos (by omega), low, if_pos ⟨hc1, hc2⟩]
            rw [UInt8.toNat_add]
            congr 1
            have : (32 : UInt8).toNat = 32 := rfl
            omega
          · intro i hi hik
            rw [lows_get _ _ _ (by have := HL.out; omega), lows_get _ _ _ (by have := HL.out; omega)]
            by_cases h : i < k
            · rw [if_pos (by omega), if_pos h]
            · rw [if_neg (by omega), if_neg h]
        have HN := Lib.hid hnx
        have HBL := Lib.hid (show Below w.heap.size w (wr.setCell ⟨w.heap.size, k, none⟩ (.int .u8 (((s.data.toList.getD k 0).toNat : Int) + 32))) from hbel.setCell (by simp) _)
        clear hnx hrow hg hbel
        generalize (s.data.toList.getD k 0).toNat = c at *
        have hc3 : (65 : Int) ≤ c := by omega
        have hc4 : (c : Int) ≤ 70 := by omega
        go_wp2_with fail
        go_round
        case rel => exact ⟨k + 1, by omega, by go_num, HBL.out, HN.out⟩
        case measure => simp [intOf]; omega
      · have hnx : SmR wr w.heap.size (lows s.data.toList (k + 1)) := by
          obtain ⟨cs, h1, h2, h3⟩ := hrow
          refine ⟨cs, h1, h2, fun j hj => ?_⟩
          rw [h3 j hj, lows_get _ _ _ (by have := HL.out; omega), lows_get _ _ _ (by have := HL.out; omega)]
          by_cases h : j = k
          · subst h
            rw [if_neg (by omega), if_pos (by omega), low, if_neg hc]
          · by_cases h : j < k
            · rw [if_pos h, if_pos (by omega)]
            · rw [if_neg h, if_neg (by omega)]
        have HN := Lib.hid hnx
        have HBL := Lib.hid hbel
        clear hnx hrow hg hbel
        generalize (s.data.toList.getD k 0).toNat = c at *
        have hc' : c < 65 ∨ 70 < c := by omega
        clear hc
        rcases hc' with hc' | hc'
        · have hc3 : (c : Int) < 65 := by omega
          go_wp2_with fail
          go_round
          case rel => exact ⟨k + 1, by omega, by go_num, HBL.out, HN.out⟩
          case measure => simp [intOf]; omega
        · have hc3 : (70 : Int) < c := by omega
          have hc4 : (65 : Int) ≤ c := by omega
          go_wp2_with fail
          go_round
          case rel => exact ⟨k + 1, by omega, by go_num, HBL.out, HN.out⟩
          case measure => simp [intOf]; omega
    · have hk4 : k = 4 := by omega
      subst hk4
      have hll : lows s.data.toList 4 = s.data.toList.map low := by
        unfold lows
        rw [List.take_of_length_le (by have := HL.out; omega), List.drop_of_length_le (by have := HL.out; omega), List.append_nil]
      have hcv2 := bytes_conv (P := Tryz.prog) (w := wr) (g := w.heap.size) (n := 4) (cap := cap) (l := s.data.toList.map low) Tryz.underlying218 Tryz.underlying5 Tryz.underlying9 (by rw [Lib.byteCells_length, List.length_map]; exact HL.out) (by
        intro j v hj
        have hjl : j < 4 := by
          have := (List.getElem?_eq_some_iff.1 hj).1
          rw [Lib.byteCells_length, List.length_map] at this
          have := HL.out
          omega
        have h := hrow.cell hjl
        rw [hll] at h
        rw [show (⟨w.heap.size, 0, none⟩ : Addr).add j = ⟨w.heap.size, j, none⟩ by rw [Lib.add_plain]; simp, h]
        rw [← hj]
        simp only [Lib.byteCells, List.getElem?_map, List.getD_eq_getElem?_getD]
        cases hq : s.data.toList[j]? with
        | none => exact absurd (List.getElem?_eq_none_iff.1 hq) (by have := HL.out; omega)
        | some x => rfl)
      have HBL := Lib.hid hbel
      clear hrow hbel
      go_wp2_with fail
      go_ret
      exact ⟨rfl, HBL.out⟩
end Go.Proofs.YtgjknekoehfdfaaGreatDoor
namespace Go.Proofs.YtgjknekoehfdfaaGreatDoor
open Go.RowKit
set_option linter.unusedVariables false

def unitP (l : List UInt8) (c : Int) : Prop := (showB c).length = 2 ∧ 2 ≤ l.length ∧ l.take 2 = showB c
def unitQ (l : List UInt8) (c : Int) : Prop := 4 ≤ l.length ∧ (l.take 4).map low = [92, 120, hexd (c / 16), hexd (c % 16)] ∧ bt l 1 = 120

theorem low_hex : ∀ b : Fin 256, ∀ d : Fin 16, low (UInt8.ofNat b.val) = hexd d.val ↔ hexI (b.val : Int) = d.val := by decide +kernel
theorem low_hex' (b : UInt8) {d : Int} (h0 : 0 ≤ d) (h1 : d < 16) : low b = hexd d ↔ hexI (b.toNat : Int) = d := by
  have h := low_hex ⟨b.toNat, b.toNat_lt⟩ ⟨d.toNat, by omega⟩
  simp only [UInt8.ofNat_toNat, Int.toNat_of_nonneg h0] at h
  exact h

theorem unit_P {l : List UInt8} {c : Int} (h0 : bt l 0 = 92) (c0 : 0 ≤ c) (c1 : c ≤ 255) (h : unitP l c) : scanB l = (c, 2) := by
  obtain ⟨h1, h2, h3⟩ := h
  match l, h2 with
  | a :: b :: r, _ =>
    rw [bt0] at h0
    simp only [List.take_succ_cons, List.take_zero] at h3
    unfold scanB
    rw [if_neg (by rw [bt0]; omega), if_neg (by simp; omega)]
    simp only [bt1]
    unfold showB at h1 h3
    split at h3
    · rename_i hc
      simp only [List.cons.injEq, and_true] at h3
      obtain ⟨_, rfl⟩ := h3
      have e : ((UInt8.ofNat c.toNat).toNat : Int) = c := by rw [UInt8.toNat_ofNat']; omega
      rw [e, if_pos hc]
    · split at h3
      · rename_i hc
        simp only [List.cons.injEq, and_true] at h3
        obtain ⟨_, rfl⟩ := h3
        subst hc; rfl
      · split at h3
        · rename_i hc
          simp only [List.cons.injEq, and_true] at h3
          obtain ⟨_, rfl⟩ := h3
          subst hc; rfl
        · split at h3
          · simp at h3
          · simp at h3

theorem unit_Q {l : List UInt8} {c : Int} (h0 : bt l 0 = 92) (c0 : 0 ≤ c) (c1 : c ≤ 255) (h : unitQ l c) : scanB l = (c, 4) := by
  obtain ⟨h1, h2, h3⟩ := h
  match l, h1 with
  | a :: b :: x :: y :: r, _ =>
    rw [bt0] at h0
    rw [bt1] at h3
    simp only [List.take_succ_cons, List.take_zero, List.map_cons, List.map_nil, List.cons.injEq, and_true] at h2
    obtain ⟨_, _, hx, hy⟩ := h2
    have hx := (low_hex' x (by omega) (by omega)).1 hx
    have hy := (low_hex' y (by omega) (by omega)).1 hy
    unfold scanB
    simp only [bt0, bt1, bt2', bt3', h0, h3, hx, hy]
    rw [if_neg (by simp), if_neg (by simp; omega), if_neg (by simp), if_neg (by simp), if_neg (by simp), if_pos trivial, if_neg (by simp; omega), if_neg (by omega), if_neg (by omega)]
    congr 1
    omega

theorem unit_none {l : List UInt8} (h0 : bt l 0 = 92) (h : ∀ c : Int, 0 ≤ c → c < 256 → ¬ unitP l c ∧ ¬ unitQ l c) : scanB l = (0, 0) := by
  have hb1 := bt_bd l 1
  have hb2 := hexI_bd (bt l 2)
  have hb3 := hexI_bd (bt l 3)
  unfold scanB
  rw [if_neg (by omega)]
  split
  · rfl
  rename_i hl
  match l, hl with
  | [], hl => simp at hl
  | [_], hl => simp at hl
  | a :: b :: r, _ =>
    rw [bt0] at h0
    have ha : a = 92 := UInt8.toNat_inj.1 (show a.toNat = 92 by omega)
    subst ha
    simp only [bt1] at *
    have hP : ∀ c : Int, 0 ≤ c → c < 256 → showB c = [92, b] → False := fun c c0 c1 hs => (h c c0 c1).1 ⟨by rw [hs]; rfl, by simp, by rw [hs]; rfl⟩
    have hbb : ∀ n : Nat, (b.toNat : Int) = n → n < 256 → b = UInt8.ofNat n := fun n e hn => UInt8.toNat_inj.1 (by rw [UInt8.toNat_ofNat']; omega)
    split
    · rename_i hq
      exfalso
      refine hP b.toNat (by omega) (by omega) ?_
      unfold showB
      rw [if_pos hq]; simp
    split
    · rename_i hq
      exfalso
      refine hP 10 (by omega) (by omega) ?_
      rw [hbb 110 hq (by omega)]; rfl
    split
    · rename_i hq
      exfalso
      refine hP 9 (by omega) (by omega) ?_
      rw [hbb 116 hq (by omega)]; rfl
    split
    · rename_i hq
      split
      · rfl
      rename_i hl
      match r, hl with
      | [], hl => simp at hl
      | [_], hl => simp at hl
      | x :: y :: r, _ =>
        simp only [bt2', bt3'] at *
        split
        · rfl
        split
        · rfl
        exfalso
        refine (h (hexI x.toNat * 16 + hexI y.toNat) (by omega) (by omega)).2 ⟨by simp, ?_, by rw [bt1]; exact hq⟩
        simp only [List.take_succ_cons, List.take_zero, List.map_cons, List.map_nil]
        rw [(low_hex' x (d := (hexI x.toNat * 16 + hexI y.toNat) / 16) (by omega) (by omega)).2 (by omega), (low_hex' y (d := (hexI x.toNat * 16 + hexI y.toNat) % 16) (by omega) (by omega)).2 (by omega)]
        rw [hbb 120 hq (by omega)]
        rfl
    · rfl
end Go.Proofs.YtgjknekoehfdfaaGreatDoor
namespace Go.Proofs.YtgjknekoehfdfaaGreatDoor
open Go.RowKit
set_option linter.unusedVariables false

theorem beq_lists {a b : ByteArray} {la lb : List UInt8} (ha : a.data.toList = la) (hb : b.data.toList = lb) : (a.toList == b.toList) = decide (la = lb) := by
  rw [ByteArray.toList_eq, ByteArray.toList_eq, ha, hb]
  by_cases h : la = lb
  · subst h; simp
  · rw [decide_eq_false h]; simpa using h

theorem low_x {b : UInt8} (h : low b = 120) : b = 120 := by
  unfold low at h
  split at h
  · rename_i hc
    have := congrArg UInt8.toNat h
    rw [UInt8.toNat_add] at this
    have e1 : (32 : UInt8).toNat = 32 := rfl
    have e2 : (120 : UInt8).toNat = 120 := rfl
    omega
  · exact h

set_option maxHeartbeats 16000000 in
set_option maxRecDepth 100000 in
theorem unit_esc (s : ByteArray) (i : Nat) (w : World) (hi : i < s.size) (hs : s.size ≤ 281474976710656) (h92 : bt s.data.toList i = 92) :
    Calls Tryz.prog 237 #[.string s, .int .i64 i] w fun e w' => e = .returned (.tuple #[.int .i64 (scanB (s.data.toList.drop i)).2, .int .u8 (scanB (s.data.toList.drop i)).1]) ∧ Below w.heap.size w w' := by
  have hsl : s.data.toList.length = s.size := rfl
  have hbt := bt_of s i hi
  have h0 : bt (s.data.toList.drop i) 0 = 92 := by rw [bt_drop]; exact h92
  have hdl : (s.data.toList.drop i).length = s.size - i := by rw [List.length_drop, hsl]
  rw [h92] at hbt
  have hx2 : (s.extract i (i + 2)).data.toList = (s.data.toList.drop i).take 2 := by rw [Lib.extract_data]; congr 1; omega
  have hx4 : (s.extract i (i + 4)).data.toList = (s.data.toList.drop i).take 4 := by rw [Lib.extract_data]; congr 1; omega
  generalize hLd : s.data.toList.drop i = L at *
  have HLd := Lib.hid hLd
  have H0 := Lib.hid h0
  have HDL := Lib.hid hdl
  have HX2 := Lib.hid hx2
  have HX4 := Lib.hid hx4
  have HBD := Lib.hid (scanB_bd L (by intro h; rw [h] at hdl; simp at hdl; omega))
  clear hsl h0 hdl h92 hx2 hx4 hLd
  go_enter Tryz.func237, Tryz.ntmps237
  go_wp2_with fail
  go_loopw [6] (fun ix wr => ∃ k : Nat, k ≤ 256 ∧ ix = .int .i64 k ∧ Below w.heap.size w wr ∧ Hid (∀ c : Int, 0 ≤ c → c < k → ¬ unitP L c ∧ ¬ unitQ L c)) (fun ix _ => 256 - (intOf ix).toNat)
  case atStart => exact ⟨0, by omega, rfl, Below.refl _ _, Lib.hid fun c h0 h1 => absurd h1 (by omega)⟩
  case round =>
    obtain ⟨k, hk, rfl, hbel, HN⟩ := hrel
    have HB := Lib.hid hbel
    have hz := hbel.size
    clear hbel
    by_cases hlt : k < 256
    · have hby := fun W => refByte_any (k : Int) W (by omega) (by omega)
      have hsb : (ByteArray.mk (showB (k : Int)).toArray).data.toList = showB k := by simp
      have hsz : (ByteArray.mk (showB (k : Int)).toArray).size = (showB (k : Int)).length := by simp [ByteArray.size]
      generalize (ByteArray.mk (showB (k : Int)).toArray) = sb at *
      have g1 := hexd_at ((k : Int) / 16) (by omega) (by omega)
      have g2 := hexd_at ((k : Int) % 16) (by omega) (by omega)
      have hq2 := beq_lists HX2.out hsb
      have HBY := Lib.hid hby
      by_cases hP : unitP L k
      · have hres := unit_P H0.out (by omega) (by omega) hP
        have HRES := Lib.hid hres
        obtain ⟨p1, p2, p3⟩ := hP
        have q1 : ((sb.size : Int) == 2) = true := by rw [hsz, p1]; rfl
        have q2 : (i : Int) + 2 ≤ s.size := by have := HDL.out; omega
        have q3 : i + 2 ≤ s.size := by omega
        rw [decide_eq_true p3] at hq2
        clear hby hsb hsz hres p1 p2 p3 g1 g2
        go_wp2_with fail
        refine (HBY.out _).mono ?_
        rintro e w1 ⟨rfl, hb1⟩
        have HB1 := Lib.hid (HB.out.trans (hb1.mono hz))
        clear hb1
        go_wp2_with fail
        go_ret2
        exact ⟨by rw [HRES.out]; rfl, HB1.out⟩
      · have hPF : ((sb.size : Int) == 2) = false ∨ (((sb.size : Int) == 2) = true ∧ (s.size : Int) < i + 2 ∧ s.size < i + 2) ∨ (((sb.size : Int) == 2) = true ∧ ((i : Int) + 2 ≤ s.size ∧ i + 2 ≤ s.size) ∧ ((s.extract i (i + 2)).toList == sb.toList) = false) := by
          by_cases p1 : sb.size = 2
          · have q1 : ((sb.size : Int) == 2) = true := by rw [p1]; rfl
            by_cases p2 : i + 2 ≤ s.size
            · refine .inr (.inr ⟨q1, ⟨by omega, p2⟩, ?_⟩)
              rw [hq2]
              exact decide_eq_false fun p3 => hP ⟨by omega, by have := HDL.out; omega, p3⟩
            · exact .inr (.inl ⟨q1, by omega, by omega⟩)
          · exact .inl (beq_eq_false_iff_ne.2 (by omega))
        have HP := Lib.hid hP
        have hsm := fun W (h4 : i + 4 ≤ s.size) => small_any (s.extract i (i + 4)) W (by have := HX4.out; rw [Lib.size_eq, this, List.length_take, HDL.out]; omega)
        rw [HX4.out] at hsm
        have hsd : (ByteArray.mk ((L.take 4).map low).toArray).data.toList = (L.take 4).map low := by simp
        generalize (ByteArray.mk ((L.take 4).map low).toArray) = sm at *
        have hqx := beq_lists (b := ByteArray.mk #[92, 120] ++ ByteArray.mk #[hexd ((k : Int) / 16), hexd ((k : Int) % 16)]) (lb := [92, 120, hexd ((k : Int) / 16), hexd ((k : Int) % 16)]) hsd (by simp)
        have hQF : (unitQ L k ∧ ((i : Int) + 4 ≤ s.size ∧ i + 4 ≤ s.size) ∧ (sm.toList == (ByteArray.mk #[92, 120] ++ ByteArray.mk #[hexd ((k : Int) / 16), hexd ((k : Int) % 16)]).toList) = true ∧ bt s.data.toList (i + 1) = 120) ∨
            (¬ unitQ L k ∧ ((s.size : Int) < i + 4 ∧ s.size < i + 4)) ∨ (¬ unitQ L k ∧ ((i : Int) + 4 ≤ s.size ∧ i + 4 ≤ s.size) ∧ (sm.toList == (ByteArray.mk #[92, 120] ++ ByteArray.mk #[hexd ((k : Int) / 16), hexd ((k : Int) % 16)]).toList) = false) := by
          by_cases hQ : unitQ L k
          · refine .inl ⟨hQ, ?_⟩
            obtain ⟨p1, p2, p3⟩ := hQ
            have := HDL.out
            refine ⟨⟨by omega, by omega⟩, by rw [hqx]; exact decide_eq_true p2, ?_⟩
            rw [← HLd.out, bt_drop] at p3
            exact p3
          · refine .inr ?_
            by_cases p1 : i + 4 ≤ s.size
            · refine .inr ⟨hQ, ⟨by omega, p1⟩, ?_⟩
              rw [hqx]
              refine decide_eq_false fun p2 => hQ ⟨by have := HDL.out; omega, p2, ?_⟩
              match L, p2 with
              | [], p2 => simp at p2
              | [_], p2 => simp at p2
              | a :: b :: r, p2 =>
                rw [bt1]
                simp only [List.take_succ_cons, List.map_cons, List.cons.injEq] at p2
                rw [low_x p2.2.1]; rfl
            · exact .inl ⟨hQ, by omega, by omega⟩
        have HSM := Lib.hid hsm
        clear hby hsb hsz hq2 hP hsm hsd hqx
        rcases hPF with q1 | ⟨q1, q2, q2'⟩ | ⟨q1, ⟨q2, q2'⟩, q3⟩
        all_goals
          go_wp2_with fail
          refine (HBY.out _).mono ?_
          rintro e w1 ⟨rfl, hb1⟩
          have hB1 := HB.out.trans (hb1.mono hz)
          have hz1 := hB1.size
          have HB1 := Lib.hid hB1
          clear hb1 hB1
          have hc0 : ((w1.alloc (.cells #[.int .u8 ((hexd ((k : Int) / 16)).toNat : Int), .int .u8 ((hexd ((k : Int) % 16)).toNat : Int)] 5)).drew).cell? ⟨w1.heap.size, 0, none⟩ = some (.int .u8 ((hexd ((k : Int) / 16)).toNat : Int)) := by simp
          have hc1 : ((w1.alloc (.cells #[.int .u8 ((hexd ((k : Int) / 16)).toNat : Int), .int .u8 ((hexd ((k : Int) % 16)).toNat : Int)] 5)).drew).cell? ⟨w1.heap.size, 1, none⟩ = some (.int .u8 ((hexd ((k : Int) % 16)).toNat : Int)) := by simp
          have hcv := conv2 (cap := 2) hc0 hc1
          have HB2 := Lib.hid (show Below w.heap.size w ((w1.alloc (.cells #[.int .u8 ((hexd ((k : Int) / 16)).toNat : Int), .int .u8 ((hexd ((k : Int) % 16)).toNat : Int)] 5)).drew) from bdrew (balloc HB1.out _))
          clear hc0 hc1
          go_wp2_with fail
          go_region
          rcases hQF with ⟨hQ, ⟨r1, r1'⟩, r2, r3⟩ | ⟨hQ, r1, r1'⟩ | ⟨hQ, ⟨r1, r1'⟩, r2⟩
          · have HRES := Lib.hid (unit_Q H0.out (by omega) (by omega) hQ)
            have hb1 := bt_of s (i + 1) (by omega)
            rw [r3] at hb1
            clear hQ r3
            go_wp2_with fail
            refine (HSM.out _ r1').mono ?_
            rintro e w3 ⟨rfl, hb3⟩
            have HB3 := Lib.hid (HB2.out.trans (hb3.mono (by simp; omega)))
            clear hb3
            go_wp2_with fail
            go_ret2
            exact ⟨by rw [HRES.out]; rfl, HB3.out⟩
          · have HN2 : Hid (∀ c : Int, 0 ≤ c → c < ((k + 1 : Nat) : Int) → ¬ unitP L c ∧ ¬ unitQ L c) := Lib.hid (by
              intro c h0 h1
              by_cases e : c = k
              · subst e; exact ⟨HP.out, hQ⟩
              · exact HN.out c h0 (by omega))
            clear hQ
            go_wp2_with fail
            go_round
            case rel => exact ⟨k + 1, by omega, by go_num, HB2.out, HN2⟩
            case measure => simp [intOf]; omega
          · have HN2 : Hid (∀ c : Int, 0 ≤ c → c < ((k + 1 : Nat) : Int) → ¬ unitP L c ∧ ¬ unitQ L c) := Lib.hid (by
              intro c h0 h1
              by_cases e : c = k
              · subst e; exact ⟨HP.out, hQ⟩
              · exact HN.out c h0 (by omega))
            clear hQ
            go_wp2_with fail
            refine (HSM.out _ r1').mono ?_
            rintro e w3 ⟨rfl, hb3⟩
            have HB3 := Lib.hid (HB2.out.trans (hb3.mono (by simp; omega)))
            clear hb3
            go_wp2_with fail
            go_round
            case rel => exact ⟨k + 1, by omega, by go_num, HB3.out, HN2⟩
            case measure => simp [intOf]; omega
    · have hk256 : k = 256 := by omega
      subst hk256
      have HRES := Lib.hid (unit_none H0.out fun c h0 h1 => HN.out c h0 (by omega))
      go_wp2_with fail
      go_ret2
      exact ⟨by rw [HRES.out]; rfl, HB.out⟩

set_option maxHeartbeats 4000000 in
set_option maxRecDepth 100000 in
theorem unit_any (s : ByteArray) (i : Nat) (w : World) (hi : i < s.size) (hs : s.size ≤ 281474976710656) (hq : bt s.data.toList i ≠ 34) :
    Calls Tryz.prog 237 #[.string s, .int .i64 i] w fun e w' => e = .returned (.tuple #[.int .i64 (scanB (s.data.toList.drop i)).2, .int .u8 (scanB (s.data.toList.drop i)).1]) ∧ Below w.heap.size w w' := by
  by_cases h92 : bt s.data.toList i = 92
  · exact unit_esc s i w hi hs h92
  · have hbt := bt_of s i hi
    have hsc : scanB (s.data.toList.drop i) = if bt s.data.toList i < 32 then (0, 0) else if 126 < bt s.data.toList i then (0, 0) else (bt s.data.toList i, 1) := by
      unfold scanB
      rw [bt_drop, Nat.add_zero, if_pos h92]
    generalize bt s.data.toList i = c at *
    have q0 : (c != 92) = true := by simpa using h92
    have q1 : (c != 34) = true := by simpa using hq
    by_cases h1 : c < 32
    · rw [if_pos h1] at hsc
      have HSC := Lib.hid hsc
      clear hsc h92 hq
      go_enter Tryz.func237, Tryz.ntmps237
      go_wp2_with fail
      go_ret2
      exact ⟨by rw [HSC.out]; rfl, Below.refl _ _⟩
    · rw [if_neg h1] at hsc
      have h1' : 32 ≤ c := by omega
      by_cases h2 : 126 < c
      · rw [if_pos h2] at hsc
        have HSC := Lib.hid hsc
        clear hsc h92 hq h1
        go_enter Tryz.func237, Tryz.ntmps237
        go_wp2_with fail
        go_ret2
        exact ⟨by rw [HSC.out]; rfl, Below.refl _ _⟩
      · rw [if_neg h2] at hsc
        have h2' : c ≤ 126 := by omega
        have HSC := Lib.hid hsc
        clear hsc h92 hq h1 h2
        go_enter Tryz.func237, Tryz.ntmps237
        go_wp2_with fail
        go_quiet (fail)
        go_wp2_with fail
        go_ret2
        exact ⟨by rw [HSC.out]; rfl, bdrewN (Below.refl _ _) _⟩
end Go.Proofs.YtgjknekoehfdfaaGreatDoor
namespace Go.Proofs.YtgjknekoehfdfaaGreatDoor
open Go.RowKit
set_option linter.unusedVariables false

set_option maxHeartbeats 8000000 in
set_option maxRecDepth 100000 in
theorem refText_any (s : ByteArray) (p : Nat) (w : World) (hi : p < s.size) (hs : s.size ≤ p + 140737488355328) (hs2 : s.size ≤ 281474976710656) :
    Calls Tryz.prog 205 #[.string s, .int .i64 p] w fun e w' => e = .returned (textR (s.data.toList.drop (p + 1)) (p + 1)).v ∧ Below w.heap.size w w' := by
  obtain ⟨i0, hi0, hz0, hz1, hz2⟩ := info_parts Tryz.infoByte
  have hsl : s.data.toList.length = s.size := rfl
  have HSL := Lib.hid hsl
  clear hsl
  generalize hL : s.data.toList = l at *
  have HL := Lib.hid hL
  clear hL
  go_enter Tryz.func205, Tryz.ntmps205
  go_wp2_with fail
  go_loopw [7, 8] (fun v ix wr => ∃ (k : Nat) (acc : List UInt8) (a : Option Addr) (cap : Nat), p + 1 ≤ k ∧ k ≤ s.size ∧ ix = .int .i64 k ∧ v = .slice a acc.length cap ∧ wr.ownsRow (w.heap.size + 1) 5 1 (.slice a acc.length cap) acc.length (Lib.byteCells acc) ∧ Below w.heap.size w wr ∧ Blk wr w.heap.size 74 #[.int .i64 0, .int .i64 0, .string ⟨#[]⟩] ∧ acc.length + p + 1 ≤ k ∧ textIs l (p + 1) k acc) (fun _ ix _ => s.size - (intOf ix).toNat)
  case atStart =>
    exact ⟨p + 1, [], none, 0, Nat.le_refl _, hi, by go_num, rfl, World.ownsRow_nil _ _ _ _, balloc (Below.refl _ _) _, Blk.new _ _ _, by simp, textIs_start l (p + 1)⟩
  case round =>
    obtain ⟨k, acc, a, cap, hik, hk, rfl, rfl, hown, hbel, hblk, hacc, hrel⟩ := hrel
    have HR := Lib.hid hrel
    have HO := Lib.hid hown
    clear hrel hown
    have hsz := hbel.size
    have r0 := hblk.cell 0
    have r1 := hblk.cell 1
    have r2 := hblk.cell 2
    have z0 := hblk.frozen 0
    have z1 := hblk.frozen 1
    have z2 := hblk.frozen 2
    simp at r0 r1 r2
    by_cases hlt : k < s.size
    · have hbt := bt_of s k hlt
      rw [HL.out] at hbt
      have hkl : k < l.length := by have := HSL.out; omega
      by_cases hq : bt l k = 34
      · have q1 : (((s[k]'hlt).toNat : Int) != 34) = false := by rw [hbt]; simp [hq]
        have HBT := Lib.hid hbt
        clear hbt
        have hge : (k : Int) < s.size := by omega
        by_cases h64 : 64 < acc.length
        · have HE := Lib.hid (textR_long HR.out hkl hq h64)
          clear hq
          go_wp2_with fail
          refine bodyPost_ret (v := (bad 13).v) (by simp [results, Tryz.results205, go_sem, *]; rfl) rfl ⟨by have h := HE.out; push_cast at h; rw [h], bstore3 hbel _ _ _⟩
        · have HE := Lib.hid (textR_good HR.out hik hkl hq (by omega))
          have hcv := run_conv_own (P := Tryz.prog) Tryz.underlying218 Tryz.underlying5 Tryz.underlying9 HO.out
          have h64' : acc.length ≤ 64 := by omega
          clear hq h64
          go_wp2_with fail
          refine bodyPost_ret (v := (⟨2, 0, acc, k + 1, 0⟩ : Res).v) (by simp [results, Tryz.results205, go_sem, *]; rfl) rfl ⟨by have h := HE.out; push_cast at h; rw [h], bstore3 hbel _ _ _⟩
      · have q1 : (((s[k]'hlt).toNat : Int) != 34) = true := by rw [hbt]; simpa using hq
        have HBT := Lib.hid hbt
        clear hbt
        have hbd := scanB_bd (l.drop k) (drop_ne hkl)
        have hdl : (l.drop k).length = s.size - k := by rw [List.length_drop, HSL.out]
        rw [hdl] at hbd
        have HDL := Lib.hid hdl
        clear hdl
        have hsc := unit_any s k wr hlt hs2 (by rw [HL.out]; exact hq)
        rw [HL.out] at hsc
        by_cases hn : (scanB (l.drop k)).2 = 0
        · have HE := Lib.hid (textR_bad HR.out hkl hq hn)
          have hn' : ((scanB (l.drop k)).2 == 0) = true := by simpa using hn
          have HSC := Lib.hid hsc
          clear hq hn hsc
          go_wp2_with fail
          refine HSC.out.mono ?_
          rintro e w1 ⟨rfl, hb1⟩
          have hb1' := hbel.trans (hb1.mono hsz)
          have hblk1 := hblk.below hb1 (by have := hblk.lt; omega)
          have r0 := hblk1.cell 0
          have r1 := hblk1.cell 1
          have r2 := hblk1.cell 2
          have z0 := hblk1.frozen 0
          have z1 := hblk1.frozen 1
          have z2 := hblk1.frozen 2
          simp at r0 r1 r2
          go_wp2_with fail
          refine bodyPost_ret (v := (bad 11).v) (by simp [results, Tryz.results205, go_sem, *]; rfl) rfl ⟨by have h := HE.out; push_cast at h; rw [h], bstore3 hb1' _ _ _⟩
        · have hst := textIs_step HR.out hik hkl hq hn
          have HST := Lib.hid hst
          have hn' : ((scanB (l.drop k)).2 == 0) = false := by simpa using hn
          have HSC := Lib.hid hsc
          have hn1 : 1 ≤ (scanB (l.drop k)).2 := by omega
          have hsn := cells_snoc acc (scanB (l.drop k)).1 hbd.1.1 hbd.1.2
          have HSN := Lib.hid hsn
          clear hq hn hsc hst hsn
          go_wp2_with fail
          refine HSC.out.mono ?_
          rintro e w1 ⟨rfl, hb1⟩
          have hb1' := hbel.trans (hb1.mono hsz)
          have hblk1 := hblk.below hb1 (by have := hblk.lt; omega)
          have hown1 := (Mod.ofBelow (F := fun _ => False) hb1).ownsRow HO.out (fun _ _ f => f)
          have HO1 := Lib.hid hown1
          have HB1 := Lib.hid hblk1
          have hsz1 := hb1'.size
          clear hown1 hblk1 hblk r0 r1 r2 z0 z1 z2
          go_wp2_with (at_builtin; refine wpList_append_lies _ rfl (.tmp 32) (.tmp 34) 218 rfl (w.heap.size + 1) 5 i0 (.int .u8 0) 1 1 Tryz.underlying218 hi0 hz0 hz1 hz2 rfl (by decide) (.slice a acc.length cap) acc.length _ rfl (HO1.out.alloc _) ⟨w1.heap.size, 0, none⟩ 1 1 [.int .u8 (scanB (l.drop k)).1] rfl rfl (cell_one_new _ _ _) ?c2 (by decide) ?c3 (by omega) ?c4 (w1.heap.size + 1) (by simp) ?_)
          case c2 => intro u hu; simp at hu; subst hu; rfl
          case c3 => unfold maxLen; omega
          case c4 => have := HB1.out.lt; simp; omega
          intro g cap1 w2 hown2 hgrow2 hat2 hlt2
          have hb2 : Below w.heap.size w w2 := (balloc hb1' _).grown hgrow2 (by simp; omega) (fun q hq => by have := (HO1.out.lt q hq).1; omega)
          have hblk2 := (HB1.out.alloc (.cells #[.int .u8 (scanB (l.drop k)).1] 5)).grown hgrow2 (fun e => own_blk_ne HO1.out HB1.out (by decide) e.symm)
          have HO2 := Lib.hid hown2
          have HB2 := Lib.hid hblk2
          clear hown2 hblk2
          go_wp2_with fail
          have hkey : (acc ++ [UInt8.ofNat (scanB (l.drop k)).1.toNat]).length = acc.length + 1 := by simp
          refine ⟨⟨k + (scanB (l.drop k)).2.toNat, acc ++ [UInt8.ofNat (scanB (l.drop k)).1.toNat], some ⟨g, 0, none⟩, cap1, by omega, by omega, congrArg (Value.int .i64) (by omega), by rw [hkey], ?_, hb2, HB2.out, by rw [hkey]; omega, HST.out⟩, ?_⟩
          · rw [hkey, HSN.out]; exact HO2.out
          · simp only [intOf]; omega
    · have hke : k = s.size := by omega
      subst hke
      have HE := Lib.hid (textR_end HR.out HSL.out.symm)
      go_wp2_with fail
      refine bodyPost_ret (v := (bad 11).v) (by simp [results, Tryz.results205, go_sem, *]; rfl) rfl ⟨by have h := HE.out; push_cast at h; rw [h], bstore3 hbel _ _ _⟩
end Go.Proofs.YtgjknekoehfdfaaGreatDoor
