/- slices.Clone at osier/api.Value, walked (printed by cln.py). -/
import Derived.Test.YtgjknekoehfdfaaGreatDoorApZ
import Derived.WalkSpells
import Derived.Lib.SliceRun
namespace Go.Proofs.YtgjknekoehfdfaaGreatDoor
open Go.RowKit
set_option linter.unusedVariables false

theorem Tryz.infoC_Val : (Tryz.prog.info? 74).map (fun i => (i.zero, i.size, i.bytes)) = some (some (.agg #[.int .i64 0, .int .i64 0, .string ⟨#[]⟩]), 3, 32) := by kernel_rfl

set_option maxHeartbeats 2000000 in
set_option maxRecDepth 100000 in
theorem clone_Val (w : World) (v : Value) (xs : List (List Value)) (h : RowAt w v 3 xs) (hl : ∀ x ∈ xs, x.length = 3) (h1 : ∀ x ∈ xs, ∀ u ∈ x, u.oneCell' = true) (hb : xs.length * 32 ≤ 140737488355328) :
    Calls Tryz.prog 116 #[v] w fun e w' => ∃ v', e = .returned v' ∧ w'.ownsRow w.heap.size 74 3 v' xs.length xs.flatten ∧ Below w.heap.size w w' := by
  have heq := fun (w : World) (a : Option Addr) (n c : Nat) => Lib.run_eql_slice_nil (P := Tryz.prog) w 28 74 a n c 0 0 Tryz.underlying28
  obtain ⟨i0, hi0, hz0, hz1, hz2⟩ := info_parts Tryz.infoC_Val
  obtain ⟨ad, cap, rfl, hnc, hcm⟩ := h.form
  have hln := h.len
  have he0 : (w.alloc (.cells #[] 74)).ownsRow w.heap.size 74 3 (.slice (some ⟨w.heap.size, 0, none⟩) 0 0) 0 [] :=
    ⟨rfl, .inr ⟨w.heap.size, 0, #[], rfl, Nat.le_refl _, heap_alloc_new w _, Nat.le_refl _, Nat.zero_le _, rfl, rfl⟩⟩
  by_cases h0 : xs = []
  · subst h0
    cases ad with
    | none =>
      clear h hl h1 hb he0 hnc hcm hln
      go_enter Tryz.func116, Tryz.ntmps116
      go_wp2_with fail
      go_ret
      exact ⟨_, rfl, World.ownsRow_nil _ _ _ _, Below.refl _ _⟩
    | some ad =>
      have HE0 := Lib.hid he0
      clear h hl h1 hb he0 hnc hcm hln
      go_enter Tryz.func116, Tryz.ntmps116
      go_wp2_with fail
      go_ret
      exact ⟨_, rfl, HE0.out, balloc (Below.refl _ _) _⟩
  · have hpos := List.length_pos_iff.2 h0
    obtain ⟨x0, hx0⟩ : ∃ x0, xs[0]? = some x0 := ⟨xs[0]'hpos, List.getElem?_eq_getElem hpos⟩
    obtain ⟨b, off, cap2, hv, _, _, hbl, _⟩ := h.get hx0
    simp only [Value.slice.injEq, true_and] at hv
    obtain ⟨rfl, rfl⟩ := hv
    have HR := Lib.hid (h.keep (balloc (Below.refl w.heap.size w) (.cells #[] 74)))
    have HL := Lib.hid hl
    have HO := Lib.hid h1
    have HE0 := Lib.hid he0
    have hn0 : ¬ xs.length = 0 := by omega
    generalize hN : xs.length = n at *
    have HN := Lib.hid hN
    clear h hl h1 he0 hx0 hN h0
    unfold maxLen at hcm
    go_enter Tryz.func116, Tryz.ntmps116
    go_wp2_with (at_builtin; refine wpList_append_row _ rfl (.tmp 5) (.tmp 6) 28 rfl w.heap.size 74 i0 (.agg #[.int .i64 0, .int .i64 0, .string ⟨#[]⟩]) 3 32 Tryz.underlying28 hi0 hz0 hz1 hz2 rfl (by decide) (.slice (some ⟨w.heap.size, 0, none⟩) 0 0) 0 [] rfl HE0.out _ rfl xs HR.out HL.out HO.out ?c1 ?c2 (by simp) ?_)
    case c1 => rw [HN.out]; unfold maxLen; omega
    case c2 => rw [HN.out]; omega
    intro v1 w1 hown1 hgrow1
    rw [HN.out] at hown1
    have hb1 : Below w.heap.size w w1 := (balloc (Below.refl _ _) _).trans (((Mod.refl (fun k => k = w.heap.size) _).grown hgrow1 (fun k hk _ => by simp [Value.ownBlock] at hk; exact hk.symm)).below (by simp) (fun k hk => by omega))
    have HO1 : Hid (w1.ownsRow w.heap.size 74 3 v1 n xs.flatten) := Lib.hid (by simpa using hown1)
    have HB1 := Lib.hid hb1
    clear hown1 hgrow1 hb1
    go_wp2_with fail
    go_ret
    exact ⟨_, rfl, HO1.out, HB1.out⟩
end Go.Proofs.YtgjknekoehfdfaaGreatDoor
