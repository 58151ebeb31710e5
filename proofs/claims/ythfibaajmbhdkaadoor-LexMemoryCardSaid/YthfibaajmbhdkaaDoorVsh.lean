/- osierref01.Byte, Digits, Number, Show, walked. -/
import Derived.Test.YthfibaajmbhdkaaDoorVala
import Derived.Test.YthfibaajmbhdkaaDoorPl
import Derived.Deep.RegionHeld3
import Derived.Deep.MidRow
namespace Go.Proofs.YthfibaajmbhdkaaDoor
open Go.RowKit
set_option linter.unusedVariables false

theorem bytes_conv {P : Program} {w : World} {g e src dst n cap : Nat} {l : List UInt8} (hs : P.underlying src = some (.slice e)) (he : P.underlying e = some (.int .u8)) (hd : P.underlying dst = some .string)
    (hl : (Lib.byteCells l).length = n) (h : ∀ j v, (Lib.byteCells l)[j]? = some v → w.cell? ((⟨g, 0, none⟩ : Addr).add j) = some v) : (convert src dst (.slice (some ⟨g, 0, none⟩) n cap)).run P w = .ok (.string ⟨l.toArray⟩) w := by
  rw [run_convert_bytes_string w src dst e _ _ _ hs he hd]
  have hc := run_loadCells_list (P := P) w ⟨g, 0, none⟩ (Lib.byteCells l) h
  rw [hl] at hc
  have e : Lib.byteCells l = (l.map fun b => (b.toNat : Int)).map (Value.int .u8) := by simp [Lib.byteCells]
  rw [e] at hc
  rw [run_bytesToString w ⟨g, 0, none⟩ n cap _ hc]
  congr 2
  have : ∀ (l : List UInt8) (a : ByteArray), (l.map fun b => (b.toNat : Int)).foldl (fun r (n : Int) => r.push (UInt8.ofNat n.toNat)) a = ⟨(a.data.toList ++ l).toArray⟩ := by
    intro l
    induction l with
    | nil => intro a; simp
    | cons x l ih =>
      intro a
      simp only [List.map_cons, List.foldl_cons]
      rw [ih]
      simp [ByteArray.push]
  rw [this]
  simp

theorem conv1 {w : World} {g cap : Nat} {c : Int} (h0 : 0 ≤ c) (h1 : c ≤ 255) (h : w.cell? ⟨g, 0, none⟩ = some (.int .u8 c)) :
    (convert 63 9 (.slice (some ⟨g, 0, none⟩) 1 cap)).run Tryd.prog w = .ok (.string ⟨#[UInt8.ofNat c.toNat]⟩) w := by
  refine bytes_conv (l := [UInt8.ofNat c.toNat]) Tryd.underlying63 Tryd.underlying5 Tryd.underlying9 rfl ?_
  intro j v hj
  match j with
  | 0 =>
    simp only [Lib.byteCells, List.map_cons, List.map_nil, List.getElem?_cons_zero, Option.some.injEq] at hj
    rw [← hj, ← byte_of c h0 h1]
    exact h
  | j + 1 => simp [Lib.byteCells] at hj

theorem conv2 {w : World} {g cap : Nat} {a b : UInt8} (h : w.cell? ⟨g, 0, none⟩ = some (.int .u8 a.toNat)) (h2 : w.cell? ⟨g, 1, none⟩ = some (.int .u8 b.toNat)) :
    (convert 63 9 (.slice (some ⟨g, 0, none⟩) 2 cap)).run Tryd.prog w = .ok (.string ⟨#[a, b]⟩) w := by
  refine bytes_conv (l := [a, b]) Tryd.underlying63 Tryd.underlying5 Tryd.underlying9 rfl ?_
  intro j v hj
  match j with
  | 0 => simp only [Lib.byteCells, List.map_cons, List.map_nil, List.getElem?_cons_zero, Option.some.injEq] at hj; rw [← hj]; exact h
  | 1 => simp only [Lib.byteCells, List.map_cons, List.map_nil, List.getElem?_cons_succ, List.getElem?_cons_zero, Option.some.injEq] at hj; rw [← hj]; exact h2
  | j + 2 => simp [Lib.byteCells] at hj

set_option maxHeartbeats 4000000 in
set_option maxRecDepth 100000 in
theorem refByte_any (c : Int) (w : World) (h0 : 0 ≤ c) (h1 : c ≤ 255) :
    Calls Tryd.prog 45 #[.int .u8 c] w fun e w' => e = .returned (.string ⟨(showB c).toArray⟩) ∧ Below w.heap.size w w' := by
  by_cases c1 : c = 34
  · subst c1
    go_enter Tryd.func45, Tryd.ntmps45
    go_wp2_with fail
    go_ret
    exact ⟨rfl, Below.refl _ _⟩
  by_cases c2 : c = 92
  · subst c2
    go_enter Tryd.func45, Tryd.ntmps45
    go_wp2_with fail
    go_ret
    exact ⟨rfl, Below.refl _ _⟩
  by_cases c3 : c = 10
  · subst c3
    go_enter Tryd.func45, Tryd.ntmps45
    go_wp2_with fail
    go_ret
    exact ⟨rfl, Below.refl _ _⟩
  by_cases c4 : c = 9
  · subst c4
    go_enter Tryd.func45, Tryd.ntmps45
    go_wp2_with fail
    go_ret
    exact ⟨rfl, Below.refl _ _⟩
  have q1 : (c == 34) = false := by simpa using c1
  have q2 : (c == 92) = false := by simpa using c2
  have q3 : (c == 10) = false := by simpa using c3
  have q4 : (c == 9) = false := by simpa using c4
  by_cases c5 : 32 ≤ c ∧ c ≤ 126
  · have HE : Hid (showB c = [UInt8.ofNat c.toNat]) := Lib.hid (by unfold showB; rw [if_neg (by omega), if_neg c3, if_neg c4, if_pos c5])
    obtain ⟨c6, c7⟩ := c5
    clear c1 c2 c3 c4
    have hc : (w.alloc (.cells #[.int .u8 c] 5)).cell? ⟨w.heap.size, 0, none⟩ = some (.int .u8 c) := by simp
    have hcv := conv1 (cap := 1) h0 h1 hc
    have HB0 := Lib.hid (show Below w.heap.size w (w.alloc (.cells #[.int .u8 c] 5)) from balloc (Below.refl _ _) _)
    go_enter Tryd.func45, Tryd.ntmps45
    go_wp2_with fail
    go_ret
    exact ⟨by rw [HE.out]; rfl, HB0.out⟩
  · have HE : Hid (showB c = [92, 120, hexd (c / 16), hexd (c % 16)]) := Lib.hid (by unfold showB; rw [if_neg (by omega), if_neg c3, if_neg c4, if_neg c5])
    have c6 : c < 32 ∨ 126 < c := by omega
    have g1 := hexd_at (c / 16) (by omega) (by omega)
    have g2 := hexd_at (c % 16) (by omega) (by omega)
    have hc0 : ((w.alloc (.cells #[.int .u8 ((hexd (c / 16)).toNat : Int), .int .u8 ((hexd (c % 16)).toNat : Int)] 5)).drew).cell? ⟨w.heap.size, 0, none⟩ = some (.int .u8 ((hexd (c / 16)).toNat : Int)) := by simp
    have hc1 : ((w.alloc (.cells #[.int .u8 ((hexd (c / 16)).toNat : Int), .int .u8 ((hexd (c % 16)).toNat : Int)] 5)).drew).cell? ⟨w.heap.size, 1, none⟩ = some (.int .u8 ((hexd (c % 16)).toNat : Int)) := by simp
    have hcv := conv2 (cap := 2) hc0 hc1
    have HB0 := Lib.hid (show Below w.heap.size w ((w.alloc (.cells #[.int .u8 ((hexd (c / 16)).toNat : Int), .int .u8 ((hexd (c % 16)).toNat : Int)] 5)).drew) from bdrew (balloc (Below.refl _ _) _))
    clear c1 c2 c3 c4 c5 hc0 hc1
    rcases c6 with c6 | c6
    all_goals
      go_enter Tryd.func45, Tryd.ntmps45
      go_wp2_with fail
      go_region
      all_goals go_wp2_with fail
      all_goals go_ret
      all_goals exact ⟨by rw [HE.out]; rfl, HB0.out⟩
end Go.Proofs.YthfibaajmbhdkaaDoor
