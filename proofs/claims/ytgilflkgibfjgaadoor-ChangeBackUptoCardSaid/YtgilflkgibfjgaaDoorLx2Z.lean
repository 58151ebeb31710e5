/- lex.one, walked. -/
import Derived.Test.YtgilflkgibfjgaaDoorLx1Z
namespace Go.Proofs.YtgilflkgibfjgaaDoor
open Go.RowKit
set_option linter.unusedVariables false

theorem drop0 (l : List UInt8) (i : Nat) : bt (l.drop i) 0 = bt l i := by rw [bt_drop]; rfl
theorem drop1 (l : List UInt8) (i : Nat) : bt (l.drop i) 1 = bt l (i + 1) := by rw [bt_drop]
theorem bt_past {l : List UInt8} {k : Nat} (h : l.length ≤ k) : bt l k = 0 := by
  unfold bt
  rw [List.getD_eq_getElem?_getD, List.getElem?_eq_none h]
  rfl
theorem take_extract (s : ByteArray) (i m : Nat) : (s.data.toList.drop i).take m = (s.extract i (i + m)).data.toList := by simp

/-- What one tells of the token at i. -/
def OneOk (s : ByteArray) (i : Nat) (w : World) : Prop :=
  Calls Tryd.prog 143 #[.string s, .int .i64 i] w fun e w' => e = .returned (.tuple #[(oneS (s.data.toList.drop i) i).1.v, .int .i64 (oneS (s.data.toList.drop i) i).2]) ∧ Below w.heap.size w w'

set_option maxHeartbeats 8000000 in
set_option maxRecDepth 100000 in
/-- A mark of one byte. -/
theorem one_mark (s : ByteArray) (i : Nat) (w : World) (hi : i < s.size) (hs : s.size ≤ 140737488355328) (hg : Glob w)
    (hc : bt s.data.toList i = 40 ∨ bt s.data.toList i = 41 ∨ bt s.data.toList i = 44 ∨ bt s.data.toList i = 43) : OneOk s i w := by
  unfold OneOk
  have hE : oneS (s.data.toList.drop i) i = (⟨3, (s.extract i (i + 1)).data.toList, 0, 0, [], i⟩, 0) := by
    unfold oneS
    rw [drop0, drop1, if_neg (by omega), if_neg (by
      have : digB (bt s.data.toList i) = false := by rcases hc with h | h | h | h <;> rw [h] <;> rfl
      rw [this]; simp; omega), if_pos (.inr hc), take_extract]
  have hbt := bt_of s i hi
  have hbt1 : ∀ h : i + 1 < s.size, ((s[i + 1]'h).toNat : Int) = bt s.data.toList (i + 1) := bt_of s (i + 1)
  have HB0 := Lib.hid (show Below w.heap.size w (w.alloc (.cells #[.int .i64 3, .string (s.extract i (i + 1)), .int .i64 0, .int .i64 0, .string ⟨#[]⟩, .int .i64 i] 122)) from balloc (Below.refl _ _) _)
  have hsl : s.data.toList.length = s.size := rfl
  have hle : (i : Int) + 1 ≤ s.size := by omega
  have HE := Lib.hid hE
  clear hE hg
  generalize hL : s.data.toList = l at *
  have HL := Lib.hid hL
  have HSL := Lib.hid hsl
  clear hL hsl
  by_cases h1 : i + 1 < s.size
  all_goals
    have h1' := h1
    rcases hc with h | h | h | h
  all_goals
    rw [h] at hbt
    clear h
    go_enter Tryd.func143, Tryd.ntmps143
    go_wp2_with fail
    refine bodyPost_ret (v := .tuple #[.agg #[.int .i64 3, .string (s.extract i (i + 1)), .int .i64 0, .int .i64 0, .string ⟨#[]⟩, .int .i64 i], .int .i64 0]) (by simp [results, Tryd.results143, go_sem, *]) rfl ⟨by rw [HE.out]; rfl, HB0.out⟩
end Go.Proofs.YtgilflkgibfjgaaDoor
