/- The law ValueOnce, walked. -/
import Derived.Test.YthfibaajmbhdkaaDoorValc
import Derived.Test.YthfibaajmbhdkaaDoorValb
namespace Go.Proofs.YthfibaajmbhdkaaDoor
open Go.RowKit
set_option linter.unusedVariables false


set_option maxHeartbeats 4000000 in
set_option maxRecDepth 100000 in
theorem once_good (s : ByteArray) (k n : Int) (t S : ByteArray) (w : World) (hg : Glob w)
    (HR1 : Hid (∀ W, Glob W → Calls Tryd.prog 31 #[.string s] W fun e w' => e = .returned (.tuple #[.agg #[.int .i64 k, .int .i64 n, .string t], .int .i64 0]) ∧ Below W.heap.size W w'))
    (HS : Hid (∀ W, Glob W → Calls Tryd.prog 27 #[.agg #[.int .i64 k, .int .i64 n, .string t]] W fun e w' => e = .returned (.string S) ∧ Below W.heap.size W w'))
    (HR : Hid (∀ W, Glob W → Calls Tryd.prog 31 #[.string S] W fun e w' => e = .returned (.tuple #[.agg #[.int .i64 k, .int .i64 n, .string t], .int .i64 0]) ∧ Below W.heap.size W w'))
    (HV : Hid (∀ W, Calls Tryd.prog 25 #[.agg #[.int .i64 k, .int .i64 n, .string t]] W fun e w' => e = .returned (.bool true) ∧ Below W.heap.size W w'))
    (hz : decide ((S.size : Int) ≤ (s.size : Int)) = true) :
    Calls Tryd.prog 14 #[.string s] w fun e w' => e = .returned (.bool true) ∧ Below w.heap.size w w' := by
  have HG := Lib.hid hg
  clear hg
  go_enter Tryd.func14, Tryd.ntmps14
  go_wp2_with fail
  refine (awake01 _ HG.out).mono ?_
  rintro e w1 ⟨rfl, hb1⟩
  have HB1 := Lib.hid hb1
  clear hb1
  go_wp2_with fail
  refine (HR1.out _ (HG.out.below HB1.out)).mono ?_
  rintro e w2 ⟨rfl, hb2⟩
  have hz1 := HB1.out.size
  have hz2 := hb2.size
  have HB2 := Lib.hid (HB1.out.trans (hb2.mono hz1))
  have y0 : w.heap.size ≤ w2.heap.size := by omega
  clear hb2 hz1 hz2
  have HB2' := Lib.hid (show Below w.heap.size w (w2.alloc (.cells #[.int .i64 k, .int .i64 n, .string t] 35)) from balloc HB2.out _)
  go_wp2_with fail
  refine (HS.out _ (HG.out.below HB2'.out)).mono ?_
  rintro e w3 ⟨rfl, hb3⟩
  have a0 := hb3.cell (p := ⟨w2.heap.size, 0, none⟩) (by simp)
  have a1 := hb3.cell (p := ⟨w2.heap.size, 1, none⟩) (by simp)
  have a2 := hb3.cell (p := ⟨w2.heap.size, 2, none⟩) (by simp)
  simp [go_sem] at a0 a1 a2
  have z3 := hb3.size
  simp at z3
  have HB3 := Lib.hid (HB2'.out.trans (hb3.mono (by simp; omega)))
  clear hb3
  go_wp2_with fail
  refine (HR.out _ (HG.out.below HB3.out)).mono ?_
  rintro e w4 ⟨rfl, hb4⟩
  have b0 := (hb4.cell (p := ⟨w2.heap.size, 0, none⟩) (by simp; omega)).trans a0
  have b1 := (hb4.cell (p := ⟨w2.heap.size, 1, none⟩) (by simp; omega)).trans a1
  have b2 := (hb4.cell (p := ⟨w2.heap.size, 2, none⟩) (by simp; omega)).trans a2
  have z4 := hb4.size
  have HB4 := Lib.hid (HB3.out.trans (hb4.mono (by omega)))
  have z5 : w2.heap.size < w4.heap.size := by omega
  clear hb4 a0 a1 a2 z3 z4
  have HB4' := Lib.hid (show Below w.heap.size w (w4.alloc (.cells #[.int .i64 k, .int .i64 n, .string t] 35)) from balloc HB4.out _)
  go_wp2_with fail
  refine (HV.out _).mono ?_
  rintro e w5 ⟨rfl, hb5⟩
  have c0 := (hb5.cell (p := ⟨w2.heap.size, 0, none⟩) (by simp; omega))
  have c1 := (hb5.cell (p := ⟨w2.heap.size, 1, none⟩) (by simp; omega))
  have c2 := (hb5.cell (p := ⟨w2.heap.size, 2, none⟩) (by simp; omega))
  have d0 := (hb5.cell (p := ⟨w4.heap.size, 0, none⟩) (by simp))
  have d1 := (hb5.cell (p := ⟨w4.heap.size, 1, none⟩) (by simp))
  have d2 := (hb5.cell (p := ⟨w4.heap.size, 2, none⟩) (by simp))
  simp [go_sem, z5, b0, b1, b2] at c0 c1 c2 d0 d1 d2
  have z6 := hb5.size
  simp at z6
  have HB5 := Lib.hid (HB4'.out.trans (hb5.mono (by simp; omega)))
  clear hb5
  go_wp2_with fail
  refine (HS.out _ (HG.out.below HB5.out)).mono ?_
  rintro e w6 ⟨rfl, hb6⟩
  have HB6 := Lib.hid (HB5.out.trans (hb6.mono (by omega)))
  clear hb6
  go_wp2_with fail
  go_ret
  have hz2 : S.size ≤ s.size := by simpa using hz
  exact ⟨by simp [hz2], HB6.out⟩

set_option maxHeartbeats 4000000 in
set_option maxRecDepth 100000 in
theorem once_bad (s : ByteArray) (e0 : Int) (w : World) (hg : Glob w) (he : (e0 == 0) = false)
    (HR1 : Hid (∀ W, Glob W → Calls Tryd.prog 31 #[.string s] W fun e w' => e = .returned (.tuple #[.agg #[.int .i64 0, .int .i64 0, .string ⟨#[]⟩], .int .i64 e0]) ∧ Below W.heap.size W w')) :
    Calls Tryd.prog 14 #[.string s] w fun e w' => e = .returned (.bool true) ∧ Below w.heap.size w w' := by
  have HG := Lib.hid hg
  clear hg
  go_enter Tryd.func14, Tryd.ntmps14
  go_wp2_with fail
  refine (awake01 _ HG.out).mono ?_
  rintro e w1 ⟨rfl, hb1⟩
  have HB1 := Lib.hid hb1
  clear hb1
  go_wp2_with fail
  refine (HR1.out _ (HG.out.below HB1.out)).mono ?_
  rintro e w2 ⟨rfl, hb2⟩
  have hz1 := HB1.out.size
  have HB2 := Lib.hid (HB1.out.trans (hb2.mono hz1))
  clear hb2 hz1
  have HB2' := Lib.hid (show Below w.heap.size w (w2.alloc (.cells #[.int .i64 0, .int .i64 0, .string ⟨#[]⟩] 35)) from balloc HB2.out _)
  go_wp2_with fail
  go_ret
  exact ⟨rfl, HB2'.out⟩

theorem once_law (s : ByteArray) (w : World) (hs : s.size ≤ 140737488351232) (hg : Glob w) :
    Calls Tryd.prog 14 #[.string s] w fun e w' => e = .returned (.bool true) ∧ Below w.heap.size w w' := by
  have hr := fun W (hG : Glob W) => read_any s W (by omega) hG
  by_cases he : (readR s.data.toList).e = 0
  · obtain ⟨hv, ⟨h0, h1⟩, hlen⟩ := read_good _ he
    generalize readR s.data.toList = r at *
    obtain ⟨k, n, t, st, e0⟩ := r
    simp only at *
    subst he
    obtain ⟨S, HS, HR, hS⟩ := back_calls2 k n ⟨t.toArray⟩ h0 h1 (by simpa using hv)
    refine once_good s k n ⟨t.toArray⟩ S w hg (Lib.hid hr) HS HR (Lib.hid fun W => ?_) ?_
    · have h := valid_b k n ⟨t.toArray⟩ W
      rw [show (ByteArray.mk t.toArray).data.toList = t by simp, hv] at h
      exact h
    · simp only [hS, decide_eq_true_eq]
      have : s.data.toList.length = s.size := rfl
      omega
  · obtain ⟨a, b, c⟩ := read_bad _ he
    generalize readR s.data.toList = r at *
    obtain ⟨k, n, t, st, e0⟩ := r
    simp only at *
    subst a b c
    exact once_bad s e0 w hg (by simpa using he) (Lib.hid hr)
end Go.Proofs.YthfibaajmbhdkaaDoor
