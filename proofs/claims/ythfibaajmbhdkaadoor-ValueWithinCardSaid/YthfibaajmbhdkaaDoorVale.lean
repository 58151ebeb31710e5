/- The law ValueWithin, walked. -/
import Derived.Test.YthfibaajmbhdkaaDoorVald
namespace Go.Proofs.YthfibaajmbhdkaaDoor
open Go.RowKit
set_option linter.unusedVariables false

theorem joined (b s : ByteArray) : (b ++ s).data.toList = b.data.toList ++ s.data.toList := by simp

set_option maxHeartbeats 4000000 in
set_option maxRecDepth 100000 in
theorem within_law (b s : ByteArray) (w : World) (hb : b.size ≤ 140737488351232) (hs : s.size ≤ 140737488351232) (hg : Glob w) :
    Calls Tryd.prog 15 #[.string b, .string s] w fun e w' => e = .returned (.bool true) ∧ Below w.heap.size w w' := by
  have hsl : s.data.toList.length = s.size := rfl
  have hbl : b.data.toList.length = b.size := rfl
  have hr1 := fun W (hG : Glob W) => scan_any s 0 W (by omega) hG
  have hsz : (b ++ s).size = b.size + s.size := by simp
  have hr2 := fun W (hG : Glob W) => scan_in (b ++ s) b.size W (by omega) (by omega) (by omega) hG
  have hsh := scan_shift b.data.toList s.data.toList
  rw [← joined, hbl] at hsh
  have hgd := scan_good s.data.toList
  have hbd := scan_bad s.data.toList 0
  simp only [hsh] at hr2
  clear hsh
  generalize scanR s.data.toList 0 = r at *
  obtain ⟨k, n, t, st, e0⟩ := r
  simp only [Res.v] at *
  by_cases he : e0 = 0
  · subst he
    obtain ⟨_, _, hlen, hst0, hst1⟩ := hgd rfl
    rw [if_pos rfl] at hr2
    have h5 : decide (st ≤ (s.size : Int)) = true := by simp; omega
    have HR1 := Lib.hid hr1
    have HR2 := Lib.hid hr2
    have HG := Lib.hid hg
    clear hr1 hr2 hg hgd hbd hlen hsl hbl hsz
    go_enter Tryd.func15, Tryd.ntmps15
    go_wp2_with fail
    refine (HR1.out _ HG.out).mono ?_
    rintro e w1 ⟨rfl, hb1⟩
    have HB1 := Lib.hid hb1
    have hz1 := hb1.size
    have HB1' := Lib.hid (show Below w.heap.size w (w1.alloc (.cells #[.int .i64 k, .int .i64 n, .string ⟨t.toArray⟩] 35)) from balloc HB1.out _)
    clear hb1
    go_wp2_with fail
    refine (HR2.out _ (HG.out.below HB1'.out)).mono ?_
    rintro e w2 ⟨rfl, hb2⟩
    have a0 := hb2.cell (p := ⟨w1.heap.size, 0, none⟩) (by simp)
    have a1 := hb2.cell (p := ⟨w1.heap.size, 1, none⟩) (by simp)
    have a2 := hb2.cell (p := ⟨w1.heap.size, 2, none⟩) (by simp)
    simp [go_sem] at a0 a1 a2
    have z2 := hb2.size
    simp at z2
    have z3 : w1.heap.size < w2.heap.size := by omega
    have HB2 := Lib.hid (HB1'.out.trans (hb2.mono (by simp; omega)))
    have HB2' := Lib.hid (show Below w.heap.size w (w2.alloc (.cells #[.int .i64 k, .int .i64 n, .string ⟨t.toArray⟩] 35)) from balloc HB2.out _)
    clear hb2
    go_wp2_with fail
    refine (awake01 _ (HG.out.below HB2'.out)).mono ?_
    rintro e w3 ⟨rfl, hb3⟩
    have HB3 := Lib.hid (HB2'.out.trans (hb3.mono (by simp; omega)))
    clear hb3
    go_wp2_with fail
    go_ret
    have hsl : s.data.toList.length = s.size := rfl
    exact ⟨by simp; unfold wrap64; omega, HB3.out⟩
  · obtain ⟨rfl, rfl, rfl, rfl⟩ := hbd he
    rw [if_neg he] at hr2
    have q : (e0 == 0) = false := by simpa using he
    have HR1 := Lib.hid hr1
    have HR2 := Lib.hid hr2
    have HG := Lib.hid hg
    clear hr1 hr2 hg hgd hbd hsl hbl hsz he
    go_enter Tryd.func15, Tryd.ntmps15
    go_wp2_with fail
    refine (HR1.out _ HG.out).mono ?_
    rintro e w1 ⟨rfl, hb1⟩
    have HB1 := Lib.hid hb1
    have hz1 := hb1.size
    have HB1' := Lib.hid (show Below w.heap.size w (w1.alloc (.cells #[.int .i64 0, .int .i64 0, .string ⟨#[]⟩] 35)) from balloc HB1.out _)
    clear hb1
    go_wp2_with fail
    refine (HR2.out _ (HG.out.below HB1'.out)).mono ?_
    rintro e w2 ⟨rfl, hb2⟩
    have a0 := hb2.cell (p := ⟨w1.heap.size, 0, none⟩) (by simp)
    have a1 := hb2.cell (p := ⟨w1.heap.size, 1, none⟩) (by simp)
    have a2 := hb2.cell (p := ⟨w1.heap.size, 2, none⟩) (by simp)
    simp [go_sem] at a0 a1 a2
    have z2 := hb2.size
    simp at z2
    have z3 : w1.heap.size < w2.heap.size := by omega
    have HB2 := Lib.hid (HB1'.out.trans (hb2.mono (by simp; omega)))
    have HB2' := Lib.hid (show Below w.heap.size w (w2.alloc (.cells #[.int .i64 0, .int .i64 0, .string ⟨#[]⟩] 35)) from balloc HB2.out _)
    clear hb2
    go_wp2_with fail
    refine (awake01 _ (HG.out.below HB2'.out)).mono ?_
    rintro e w3 ⟨rfl, hb3⟩
    have HB3 := Lib.hid (HB2'.out.trans (hb3.mono (by simp; omega)))
    clear hb3
    go_wp2_with fail
    go_ret
    exact ⟨by simp, HB3.out⟩
end Go.Proofs.YthfibaajmbhdkaaDoor
