/- value.showByte, walked. -/
import Derived.Test.YthfibaajmbhdkaaDoorBld
import Derived.Test.YthfibaajmbhdkaaDoorVal2
import Derived.Deep.Light
namespace Go.Proofs.YthfibaajmbhdkaaDoor
open Go.RowKit
set_option linter.unusedVariables false

abbrev BldAt (B b : Nat) (p : Value) (acc : List UInt8) (w : World) : Prop := Lib.BuilderAt 65 5 B b p (Lib.byteCells acc) w
abbrev IsBld (B b : Nat) (acc : List UInt8) (w : World) : Prop := Lib.IsBuilder 65 5 B b (Lib.byteCells acc) w

def hexd (i : Int) : UInt8 := UInt8.ofNat (if i < 10 then 48 + i else 87 + i).toNat
theorem hexd_tab : ∀ i : Fin 16, (ByteArray.mk #[48, 49, 50, 51, 52, 53, 54, 55, 56, 57, 97, 98, 99, 100, 101, 102])[i.val]'(by have h := i.isLt; exact h) = hexd i.val := by decide
theorem hexd_at (i : Int) (h0 : 0 ≤ i) (h1 : i < 16) (hp : i.toNat < (ByteArray.mk #[48, 49, 50, 51, 52, 53, 54, 55, 56, 57, 97, 98, 99, 100, 101, 102]).size) :
    (ByteArray.mk #[48, 49, 50, 51, 52, 53, 54, 55, 56, 57, 97, 98, 99, 100, 101, 102])[i.toNat]'hp = hexd i := by
  have := hexd_tab ⟨i.toNat, by omega⟩
  simp only [Int.toNat_of_nonneg h0] at this
  exact this

/-- One byte of a text as it is written. -/
def showB (c : Int) : List UInt8 :=
  if c = 34 ∨ c = 92 then [92, UInt8.ofNat c.toNat]
  else if c = 10 then [92, 110]
  else if c = 9 then [92, 116]
  else if 32 ≤ c ∧ c ≤ 126 then [UInt8.ofNat c.toNat]
  else [92, 120, hexd (c / 16), hexd (c % 16)]

theorem byte_of (c : Int) (h0 : 0 ≤ c) (h1 : c ≤ 255) : Value.int .u8 c = Value.int .u8 ((UInt8.ofNat c.toNat).toNat : Int) := by
  congr 1
  rw [UInt8.toNat_ofNat']
  omega

theorem bc_append (a b : List UInt8) : Lib.byteCells (a ++ b) = Lib.byteCells a ++ Lib.byteCells b := by simp [Lib.byteCells]

theorem writeByte_l (B b : Nat) (acc : List UInt8) (c : Int) (w : World) (h : IsBld B b acc w) (hlen : acc.length + 1 ≤ 140737488355328) (hBw : B ≤ w.heap.size) (h0 : 0 ≤ c) (h1 : c ≤ 255) :
    Calls Tryd.prog 41 #[.pointer (some ⟨b, 0, none⟩), .int .u8 c] w fun e w' => e = .returned .nilIface ∧ (BldAt B b (.pointer (some ⟨b, 0, none⟩)) (acc ++ [UInt8.ofNat c.toNat]) w' ∧ Below B w w') := by
  refine (writeByte_any B b _ c w h (by rw [Lib.byteCells_length]; exact hlen) hBw).mono ?_
  rintro e w' ⟨rfl, h2, hb⟩
  refine ⟨rfl, ?_, hb⟩
  unfold BldAt
  rw [bc_append]
  rw [byte_of c h0 h1] at h2
  exact h2

theorem writeString_l (B b : Nat) (acc : List UInt8) (s : ByteArray) (w : World) (h : IsBld B b acc w) (hlen : acc.length + s.size ≤ 140737488355328) (hBw : B ≤ w.heap.size) :
    Calls Tryd.prog 60 #[.pointer (some ⟨b, 0, none⟩), .string s] w fun e w' => e = .returned (.tuple #[.int .i64 s.size, .nilIface]) ∧ (BldAt B b (.pointer (some ⟨b, 0, none⟩)) (acc ++ s.data.toList) w' ∧ Below B w w') := by
  refine (writeString_any B b _ s w h (by rw [Lib.byteCells_length]; exact hlen) hBw).mono ?_
  rintro e w' ⟨rfl, h2, hb⟩
  refine ⟨rfl, ?_, hb⟩
  unfold BldAt
  rw [bc_append]
  exact h2

set_option maxHeartbeats 4000000 in
theorem showByte_any (B b : Nat) (acc : List UInt8) (c : Int) (w : World) (h : IsBld B b acc w) (hlen : acc.length + 4 ≤ 140737488355328) (hBw : B ≤ w.heap.size) (h0 : 0 ≤ c) (h1 : c ≤ 255) :
    Calls Tryd.prog 42 #[.pointer (some ⟨b, 0, none⟩), .int .u8 c] w fun e w' => e = .returned (.tuple #[]) ∧ BldAt B b (.pointer (some ⟨b, 0, none⟩)) (acc ++ showB c) w' ∧ Below B w w' := by
  have HH := Lib.hid h
  clear h
  by_cases c1 : c = 34 ∨ c = 92
  · have HE : Hid (acc ++ [92] ++ [UInt8.ofNat c.toNat] = acc ++ showB c) := Lib.hid (by rw [showB, if_pos c1]; simp)
    have q : (c == 34) = true ∨ ((c == 34) = false ∧ (c == 92) = true) := by
      rcases c1 with rfl | rfl
      · left; rfl
      · right; exact ⟨rfl, rfl⟩
    clear c1
    rcases q with q1 | ⟨q1, q2⟩
    all_goals
      go_enter Tryd.func42, Tryd.ntmps42
      go_wp2_with fail
      refine (writeByte_l B b acc 92 _ HH.out (by omega) hBw (by omega) (by omega)).mono ?_
      rintro e w1 ⟨rfl, hw1, hb1⟩
      have HW1 := Lib.hid hw1
      clear hw1
      go_wp2_with fail
      refine (writeByte_l B b _ c _ (.inr HW1.out) (by simp; omega) (Nat.le_trans hBw hb1.size) h0 h1).mono ?_
      rintro e w2 ⟨rfl, hw2, hb2⟩
      have HW2 := Lib.hid hw2
      clear hw2
      go_wp2_with fail
      go_end0
      exact ⟨rfl, by rw [← HE.out]; exact HW2.out, hb1.trans hb2⟩
  · have q1 : (c == 34) = false := by simp; omega
    have q2 : (c == 92) = false := by simp; omega
    by_cases c2 : c = 10
    · have HE : Hid (showB c = [92, 110]) := Lib.hid (by rw [showB, if_neg c1, if_pos c2])
      have q3 : (c == 10) = true := by simpa using c2
      clear c1 c2
      go_enter Tryd.func42, Tryd.ntmps42
      go_wp2_with fail
      refine (writeString_l B b acc _ _ HH.out (by have : (ByteArray.mk #[92, 110]).size = 2 := rfl; omega) hBw).mono ?_
      rintro e w1 ⟨rfl, hw1, hb1⟩
      have HW1 := Lib.hid hw1
      clear hw1
      go_wp2_with fail
      go_end0
      exact ⟨rfl, by rw [HE.out]; exact HW1.out, hb1⟩
    · have q3 : (c == 10) = false := by simpa using c2
      by_cases c3 : c = 9
      · have HE : Hid (showB c = [92, 116]) := Lib.hid (by rw [showB, if_neg c1, if_neg c2, if_pos c3])
        have q4 : (c == 9) = true := by simpa using c3
        clear c1 c2 c3
        go_enter Tryd.func42, Tryd.ntmps42
        go_wp2_with fail
        refine (writeString_l B b acc _ _ HH.out (by have : (ByteArray.mk #[92, 116]).size = 2 := rfl; omega) hBw).mono ?_
        rintro e w1 ⟨rfl, hw1, hb1⟩
        have HW1 := Lib.hid hw1
        clear hw1
        go_wp2_with fail
        go_end0
        exact ⟨rfl, by rw [HE.out]; exact HW1.out, hb1⟩
      · have q4 : (c == 9) = false := by simpa using c3
        by_cases c4 : 32 ≤ c ∧ c ≤ 126
        · have HE : Hid (showB c = [UInt8.ofNat c.toNat]) := Lib.hid (by rw [showB, if_neg c1, if_neg c2, if_neg c3, if_pos c4])
          obtain ⟨c5, c6⟩ := c4
          clear c1 c2 c3
          go_enter Tryd.func42, Tryd.ntmps42
          go_wp2_with fail
          refine (writeByte_l B b acc c _ HH.out (by omega) hBw h0 h1).mono ?_
          rintro e w1 ⟨rfl, hw1, hb1⟩
          have HW1 := Lib.hid hw1
          clear hw1
          go_wp2_with fail
          go_end0
          exact ⟨rfl, by rw [HE.out]; exact HW1.out, hb1⟩
        · have HE : Hid (showB c = [92, 120, hexd (c / 16), hexd (c % 16)]) := Lib.hid (by rw [showB, if_neg c1, if_neg c2, if_neg c3, if_neg c4])
          have c5 : c < 32 ∨ 126 < c := by omega
          clear c1 c2 c3 c4
          rcases c5 with c5 | c5
          all_goals
            go_enter Tryd.func42, Tryd.ntmps42
            go_wp2_with fail
            refine (writeString_l B b acc _ _ HH.out (by have : (ByteArray.mk #[92, 120]).size = 2 := rfl; omega) hBw).mono ?_
            rintro e w1 ⟨rfl, hw1, hb1⟩
            have HW1 := Lib.hid hw1
            clear hw1
            go_wp2_with fail
            refine (writeByte_any B b _ _ _ (.inr HW1.out) (by rw [Lib.byteCells_length]; simp; omega) (Nat.le_trans hBw hb1.size)).mono ?_
            rintro e w2 ⟨rfl, hw2, hb2⟩
            rw [hexd_at (c / 16) (by omega) (by omega)] at hw2
            have HW2 := Lib.hid hw2
            clear hw2
            go_wp2_with fail
            refine (writeByte_any B b _ _ _ (.inr HW2.out) (by rw [List.length_append, Lib.byteCells_length]; simp; omega) (Nat.le_trans hBw (Nat.le_trans hb1.size hb2.size))).mono ?_
            rintro e w3 ⟨rfl, hw3, hb3⟩
            rw [hexd_at (c % 16) (by omega) (by omega)] at hw3
            have HW3 := Lib.hid hw3
            clear hw3
            go_wp2_with fail
            go_end0
            refine ⟨rfl, ?_, (hb1.trans hb2).trans hb3⟩
            have e : Lib.byteCells (acc ++ showB c) = Lib.byteCells (acc ++ (ByteArray.mk #[92, 120]).data.toList) ++ [.int .u8 ((hexd (c / 16)).toNat : Int)] ++ [.int .u8 ((hexd (c % 16)).toNat : Int)] := by
              rw [HE.out]; simp [Lib.byteCells]
            unfold BldAt
            rw [e]
            exact HW3.out
end Go.Proofs.YthfibaajmbhdkaaDoor
