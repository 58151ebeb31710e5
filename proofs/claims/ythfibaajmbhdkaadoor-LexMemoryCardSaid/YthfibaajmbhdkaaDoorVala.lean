/- osierlaw01.awake, walked. -/
import Derived.Test.YthfibaajmbhdkaaDoorVal6
import Derived.Test.YthfibaajmbhdkaaDoorVal9
import Derived.KernelRfl
namespace Go.Proofs.YthfibaajmbhdkaaDoor
open Go.RowKit
set_option linter.unusedVariables false

theorem show_any (k n : Int) (t : ByteArray) (w : World) (h0 : -9223372036854775808 ≤ n) (h1 : n ≤ 9223372036854775807) (hg : Glob w) :
    Calls Tryd.prog 27 #[.agg #[.int .i64 k, .int .i64 n, .string t]] w fun e w' => e = .returned (.string ⟨(showR k n t.data.toList).toArray⟩) ∧ Below w.heap.size w w' := by
  cases h : validB k n t.data.toList with
  | false => exact show_bad k n t w h
  | true =>
    have hk : k = 1 ∨ k = 2 := by
      simp only [validB, decide_eq_true_eq] at h
      omega
    rcases hk with rfl | rfl
    · exact show_num n t w h h0 h1 hg
    · exact show_text n t w h

theorem read12 : readR [45, 49, 50] = ⟨1, -12, [], 0, 0⟩ := by kernel_rfl
theorem show12 : showR 1 (-12) [] = [45, 49, 50] := by kernel_rfl

set_option maxHeartbeats 4000000 in
set_option maxRecDepth 100000 in
theorem awake01 (w : World) (hg : Glob w) : Calls Tryd.prog 24 #[] w fun e w' => e = .returned (.bool true) ∧ Below w.heap.size w w' := by
  have hr := read_any ⟨#[45, 49, 50]⟩ w (by decide) hg
  have er : readR (ByteArray.mk #[45, 49, 50]).data.toList = ⟨1, -12, [], 0, 0⟩ := read12
  rw [er] at hr
  have HR := Lib.hid hr
  have HG := Lib.hid hg
  clear hr er hg
  go_enter Tryd.func24, Tryd.ntmps24
  go_wp2_with fail
  refine HR.out.mono ?_
  rintro e w1 ⟨rfl, hb1⟩
  unfold Res.v2
  have HB1 := Lib.hid hb1
  clear hb1
  go_wp2_with fail
  refine (valid_any 1 (-12) ⟨#[]⟩ _).mono ?_
  rintro e w2 ⟨rfl, rfl⟩
  have hv : validB 1 (-12) (ByteArray.mk #[]).data.toList = true := by decide
  rw [hv]
  have hb2 : Below w.heap.size w ((w1.alloc (.cells #[.int .i64 1, .int .i64 (-12), .string ⟨#[]⟩] 35)).alloc (.cells #[.int .i64 1, .int .i64 (-12), .string ⟨#[]⟩] 35)) := balloc (balloc HB1.out _) _
  have hs := show_any 1 (-12) ⟨#[]⟩ _ (by omega) (by omega) (HG.out.below hb2)
  have es : showR 1 (-12) (ByteArray.mk #[]).data.toList = [45, 49, 50] := show12
  rw [es] at hs
  have HS := Lib.hid hs
  have HB2 := Lib.hid hb2
  clear hs es hb2 hv
  go_wp2_with fail
  refine HS.out.mono ?_
  rintro e w3 ⟨rfl, hb3⟩
  have hz := HB2.out.size
  have HB3 := Lib.hid (HB2.out.trans (hb3.mono hz))
  clear hb3 hz
  go_wp2_with fail
  go_ret
  exact ⟨rfl, HB3.out⟩
end Go.Proofs.YthfibaajmbhdkaaDoor
