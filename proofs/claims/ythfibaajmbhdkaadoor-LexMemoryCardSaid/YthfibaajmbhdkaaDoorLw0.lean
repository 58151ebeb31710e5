/- osierlaw07.awake, walked; how told tokens lie. -/
import Derived.Test.YthfibaajmbhdkaaDoorLx7
import Derived.KernelRfl
import Derived.Laws.OwnMore
namespace Go.Proofs.YthfibaajmbhdkaaDoor
open Go.RowKit
set_option linter.unusedVariables false

theorem lex_a : lexR [97, 44] = ⟨[⟨1, [97], 0, 0, [], 0⟩, ⟨3, [44], 0, 0, [], 1⟩, endTok 2], 0, 0⟩ := by kernel_rfl
theorem name_a : isNameB [97] = true := by kernel_rfl

/-- The told tokens, taken apart: at least one. -/
theorem own_some {w : World} {base : Nat} {e : TypeId} {a : Option Addr} {n cap : Nat} {xs : List Value} (h : w.ownsRow base e 6 (.slice a n cap) n xs) (hn : 0 < n) : ∃ g, a = some ⟨g, 0, none⟩ ∧ base ≤ g ∧ g < w.heap.size := by
  obtain ⟨g, c, hv, hb, hg⟩ := h.form hn
  injection hv with h1 _ _
  exact ⟨g, h1, hb, hg⟩

theorem tokens_a (w : World) (hg : Glob w) :
    Calls Tryd.prog 18 #[.string ⟨#[97, 44]⟩] w fun e w' => ∃ g cap, e = .returned (.tuple #[.slice (some ⟨g, 0, none⟩) 3 cap, .int .i64 0, .int .i64 0]) ∧ Below w.heap.size w w' ∧
      w'.cell? ⟨g, 1, none⟩ = some (.string ⟨#[97]⟩) ∧ w'.cell? ⟨g, 6, none⟩ = some (.int .i64 3) ∧ w'.cell? ⟨g, 17, none⟩ = some (.int .i64 2) := by
  have h := tokens_any ⟨#[97, 44]⟩ w (by decide) hg
  rw [show lexR (ByteArray.mk #[97, 44]).data.toList = _ from lex_a] at h
  refine h.mono ?_
  rintro e w' ⟨a, cap, he, hown, hb⟩
  simp only [List.length_cons, List.length_nil] at he hown
  obtain ⟨g, rfl, _, _⟩ := own_some hown (by decide)
  have c1 := hown.cellAt 1 (by decide)
  have c6 := hown.cellAt 6 (by decide)
  have c15 := hown.cellAt 17 (by decide)
  exact ⟨g, cap, he, hb, c1, c6, c15⟩

set_option maxHeartbeats 4000000 in
set_option maxRecDepth 100000 in
theorem awake07 (w : World) (hg : Glob w) : Calls Tryd.prog 20 #[] w fun e w' => e = .returned (.bool true) ∧ Below w.heap.size w w' := by
  have HT := Lib.hid (tokens_a w hg)
  have hn := fun W => isName_any ⟨#[97]⟩ W (by decide)
  rw [show isNameB (ByteArray.mk #[97]).data.toList = true from name_a] at hn
  have HN := Lib.hid hn
  clear hn hg
  go_enter Tryd.func20, Tryd.ntmps20
  go_wp2_with fail
  refine HT.out.mono ?_
  rintro e w1 ⟨g, cap, rfl, hb1, c1, c6, c15⟩
  have HB1 := Lib.hid hb1
  clear hb1
  go_wp2_with fail
  refine (HN.out _).mono ?_
  rintro e w2 ⟨rfl, rfl⟩
  go_wp2_with fail
  go_ret
  exact ⟨rfl, HB1.out⟩
end Go.Proofs.YthfibaajmbhdkaaDoor
