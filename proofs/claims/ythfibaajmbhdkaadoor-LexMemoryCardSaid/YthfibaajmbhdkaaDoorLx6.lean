/- lex.one whole; lex.IsName, lex.Tokens, walked. -/
import Derived.Test.YthfibaajmbhdkaaDoorLx4
import Derived.Test.YthfibaajmbhdkaaDoorLx5
import Derived.Test.YthfibaajmbhdkaaDoorLxr
import Derived.Deep.AppendLies
namespace Go.Proofs.YthfibaajmbhdkaaDoor
open Go.RowKit
set_option linter.unusedVariables false

theorem one_any (s : ByteArray) (i : Nat) (w : World) (hi : i < s.size) (hs : s.size ≤ 140737488355328) (hg : Glob w) : OneOk s i w := by
  by_cases h58 : bt s.data.toList i = 58
  · by_cases hn : bt s.data.toList (i + 1) = 45
    · exact one_colon_ok s i w hi hs h58 hn
    · exact one_colon_bad s i w hi hs h58 hn
  by_cases h45 : bt s.data.toList i = 45
  · cases hd : digB (bt s.data.toList (i + 1)) with
    | true => exact one_minus_lit s i w hi hs hg h45 hd
    | false => exact one_minus_mark s i w hi hs h45 hd
  by_cases hm : bt s.data.toList i = 40 ∨ bt s.data.toList i = 41 ∨ bt s.data.toList i = 44 ∨ bt s.data.toList i = 43
  · exact one_mark s i w hi hs hg hm
  by_cases hl : bt s.data.toList i = 34 ∨ digB (bt s.data.toList i) = true
  · exact one_lit s i w hi hs hg hl
  cases hlt : letB (bt s.data.toList i) with
  | true => exact one_name_walk s i w hi hs hlt
  | false =>
    refine one_other s i w hi hs ⟨h58, h45, fun h => hm (.inl h), fun h => hm (.inr (.inl h)), fun h => hm (.inr (.inr (.inl h))), fun h => hm (.inr (.inr (.inr h))), fun h => hl (.inl h), ?_⟩ hlt
    cases hd : digB (bt s.data.toList i) with
    | true => exact absurd (.inr hd) hl
    | false => rfl

def Tok.cells (t : Tok) : List Value := [.int .i64 t.k, .string ⟨t.x.toArray⟩, .int .i64 t.vk, .int .i64 t.vn, .string ⟨t.vt.toArray⟩, .int .i64 t.p]
def tcells (ts : List Tok) : List Value := ts.flatMap Tok.cells
theorem tcells_snoc (ts : List Tok) (t : Tok) : tcells (ts ++ [t]) = tcells ts ++ t.cells := by simp [tcells]

theorem Tryd.infoTok : (Tryd.prog.info? 37).map (fun i => (i.zero, i.size, i.bytes)) = some (some (.agg #[.int .i64 0, .string ⟨#[]⟩, .int .i64 0, .int .i64 0, .string ⟨#[]⟩, .int .i64 0]), 6, 64) := by kernel_rfl

set_option maxHeartbeats 8000000 in
set_option maxRecDepth 100000 in
theorem isName_any (s : ByteArray) (w : World) (hs : s.size ≤ 140737488355328) :
    Calls Tryd.prog 22 #[.string s] w fun e w' => e = .returned (.bool (isNameB s.data.toList)) ∧ w = w' := by
  have hsl : s.data.toList.length = s.size := rfl
  by_cases h0 : s.size = 0
  · have hd : s.data.toList = [] := List.length_eq_zero_iff.1 (by omega)
    have hE : isNameB s.data.toList = false := by unfold isNameB; simp [hd]
    obtain rfl : s = ByteArray.empty := by
      apply ByteArray.ext
      exact Array.size_eq_zero_iff.1 h0
    have HE := Lib.hid hE
    clear hE hsl hd
    go_enter Tryd.func22, Tryd.ntmps22
    go_wp2_with fail
    go_ret
    exact ⟨by rw [HE.out]; rfl, rfl⟩
  · have h0' : 0 < s.size := by omega
    have hbt := bt_of s 0 h0'
    have hne := nameEnd_any s 0 w (by omega) (by omega)
    rw [List.drop_zero, Nat.zero_add] at hne
    have hE : isNameB s.data.toList = (letB (bt s.data.toList 0) && (decide (nameRun s.data.toList = s.size) && decide (s.size ≤ 16))) := by
      unfold isNameB
      rw [hsl]
      have : s.data.toList ≠ [] := fun e => by rw [e] at hsl; simp at hsl; omega
      by_cases a : letB (bt s.data.toList 0) = true <;> by_cases b : nameRun s.data.toList = s.size <;> by_cases c : s.size ≤ 16 <;> simp [this, a, b, c]
    rw [hE]
    have hem : s.toList.isEmpty = false := by
      rw [ByteArray.toList_eq]
      cases h : s.data.toList with
      | nil => rw [h] at hsl; simp at hsl; omega
      | cons _ _ => rfl
    have HNE := Lib.hid hne
    clear hE hne hsl
    generalize nameRun s.data.toList = n at *
    have q16 : decide ((s.size : Int) ≤ 16) = decide (s.size ≤ 16) := decide_eq_decide.2 (by omega)
    cases hl : letB (bt s.data.toList 0) with
    | false =>
      go_enter Tryd.func22, Tryd.ntmps22
      go_wp2_with (go_at_call 38; refine (isLetter_any _ _).mono ?_; rintro e w' ⟨rfl, rfl⟩)
      go_ret
      exact ⟨rfl, rfl⟩
    | true =>
      by_cases hn : n = s.size
      · have qn : ((n : Int) == (s.size : Int)) = true := by simp [hn]
        rw [decide_eq_true hn]
        clear hn
        go_enter Tryd.func22, Tryd.ntmps22
        go_wp2_with (first | (go_at_call 38; refine (isLetter_any _ _).mono ?_; rintro e w' ⟨rfl, rfl⟩) | (go_at_call 39; refine HNE.out.mono ?_; rintro e w' ⟨rfl, rfl⟩))
        go_ret
        exact ⟨rfl, rfl⟩
      · have qn : ((n : Int) == (s.size : Int)) = false := by rw [beq_eq_false_iff_ne]; omega
        rw [decide_eq_false hn]
        clear hn
        go_enter Tryd.func22, Tryd.ntmps22
        go_wp2_with (first | (go_at_call 38; refine (isLetter_any _ _).mono ?_; rintro e w' ⟨rfl, rfl⟩) | (go_at_call 39; refine HNE.out.mono ?_; rintro e w' ⟨rfl, rfl⟩))
        go_ret
        exact ⟨rfl, rfl⟩
end Go.Proofs.YthfibaajmbhdkaaDoor
