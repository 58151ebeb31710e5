/- value.Read, walked. -/
import Derived.Test.YthfibaajmbhdkaaDoorVal5
namespace Go.Proofs.YthfibaajmbhdkaaDoor
open Go.RowKit
set_option linter.unusedVariables false

set_option maxHeartbeats 4000000 in
set_option maxRecDepth 100000 in
theorem read_any (s : ByteArray) (w : World) (hs : s.size ≤ 140737488355328) (hg : Glob w) :
    Calls Tryd.prog 31 #[.string s] w fun e w' => e = .returned (readR s.data.toList).v2 ∧ Below w.heap.size w w' := by
  have hsl : s.data.toList.length = s.size := rfl
  have HE : Hid (readR s.data.toList = if (scanR s.data.toList 0).e = 0 ∧ (scanR s.data.toList 0).stop ≠ (s.size : Int) then ⟨0, 0, [], 0, 11⟩ else ⟨(scanR s.data.toList 0).k, (scanR s.data.toList 0).n, (scanR s.data.toList 0).t, 0, (scanR s.data.toList 0).e⟩) := Lib.hid (by unfold readR; rw [hsl])
  have hsc := fun W => scan_any s 0 W hs
  have HSC := Lib.hid hsc
  have HG := Lib.hid hg
  clear hsl hsc hg
  generalize scanR s.data.toList 0 = r at *
  by_cases he : r.e = 0
  · by_cases ht : r.stop = s.size
    · have q1 : (r.e == 0) = true := by simpa using he
      have q2 : (r.stop != (s.size : Int)) = false := by simp [ht]
      have HE2 : Hid (readR s.data.toList = ⟨r.k, r.n, r.t, 0, r.e⟩) := Lib.hid (by rw [HE.out, if_neg (by simp [ht])])
      clear he ht
      go_enter Tryd.func31, Tryd.ntmps31
      go_wp2_with fail
      refine (HSC.out _ (HG.out.below (balloc (Below.refl _ _) _))).mono ?_
      rintro e w2 ⟨rfl, hb2⟩
      have hb3 : Below w.heap.size w w2 := (balloc (Below.refl _ _) _).trans (hb2.mono (by simp))
      have hblk := (Blk.new w 35 #[.int .i64 0, .int .i64 0, .string ⟨#[]⟩]).below hb2 (by simp)
      have c0 := hblk.cell 0
      have c1 := hblk.cell 1
      have c2 := hblk.cell 2
      have z0 := hblk.frozen 0
      have z1 := hblk.frozen 1
      have z2 := hblk.frozen 2
      have hlt := hblk.lt
      simp at c0 c1 c2
      have HB3 := Lib.hid hb3
      clear hb2 hblk hb3
      unfold Res.v
      go_wp2_with fail
      refine bodyPost_ret (v := ((⟨r.k, r.n, r.t, 0, r.e⟩ : Res)).v2) (by simp [results, Tryd.results31, go_sem, *]; rfl) rfl ⟨by rw [HE2.out], ?_⟩
      have hb4 := (balloc (bstore3 HB3.out (.int .i64 r.k) (.int .i64 r.n) (.string ⟨r.t.toArray⟩)) (.cells #[.int .i64 r.k, .int .i64 r.n, .string ⟨r.t.toArray⟩] 35))
      simpa [go_sem] using hb4
    · have q1 : (r.e == 0) = true := by simpa using he
      have q2 : (r.stop != (s.size : Int)) = true := by simpa using ht
      have HE2 : Hid (readR s.data.toList = ⟨0, 0, [], 0, 11⟩) := Lib.hid (by rw [HE.out, if_pos ⟨he, ht⟩])
      clear he ht
      go_enter Tryd.func31, Tryd.ntmps31
      go_wp2_with fail
      refine (HSC.out _ (HG.out.below (balloc (Below.refl _ _) _))).mono ?_
      rintro e w2 ⟨rfl, hb2⟩
      have hb3 : Below w.heap.size w w2 := (balloc (Below.refl _ _) _).trans (hb2.mono (by simp))
      have hblk := (Blk.new w 35 #[.int .i64 0, .int .i64 0, .string ⟨#[]⟩]).below hb2 (by simp)
      have c0 := hblk.cell 0
      have c1 := hblk.cell 1
      have c2 := hblk.cell 2
      have z0 := hblk.frozen 0
      have z1 := hblk.frozen 1
      have z2 := hblk.frozen 2
      have hlt := hblk.lt
      simp at c0 c1 c2
      have HB3 := Lib.hid hb3
      clear hb2 hblk hb3
      unfold Res.v
      go_wp2_with fail
      refine bodyPost_ret (v := ((⟨0, 0, [], 0, 11⟩ : Res)).v2) (by simp [results, Tryd.results31, go_sem, *]; rfl) rfl ⟨by rw [HE2.out], ?_⟩
      have hb4 := (balloc (bstore3 HB3.out (.int .i64 0) (.int .i64 0) (.string ⟨#[]⟩)) (.cells #[.int .i64 r.k, .int .i64 r.n, .string ⟨r.t.toArray⟩] 35))
      simpa [go_sem] using hb4
  · have q1 : (r.e == 0) = false := by simpa using he
    have HE2 : Hid (readR s.data.toList = ⟨r.k, r.n, r.t, 0, r.e⟩) := Lib.hid (by rw [HE.out, if_neg (by simp [he])])
    clear he
    go_enter Tryd.func31, Tryd.ntmps31
    go_wp2_with fail
    refine (HSC.out _ (HG.out.below (balloc (Below.refl _ _) _))).mono ?_
    rintro e w2 ⟨rfl, hb2⟩
    have hb3 : Below w.heap.size w w2 := (balloc (Below.refl _ _) _).trans (hb2.mono (by simp))
    have hblk := (Blk.new w 35 #[.int .i64 0, .int .i64 0, .string ⟨#[]⟩]).below hb2 (by simp)
    have c0 := hblk.cell 0
    have c1 := hblk.cell 1
    have c2 := hblk.cell 2
    have z0 := hblk.frozen 0
    have z1 := hblk.frozen 1
    have z2 := hblk.frozen 2
    have hlt := hblk.lt
    simp at c0 c1 c2
    have HB3 := Lib.hid hb3
    clear hb2 hblk hb3
    unfold Res.v
    go_wp2_with fail
    refine bodyPost_ret (v := ((⟨r.k, r.n, r.t, 0, r.e⟩ : Res)).v2) (by simp [results, Tryd.results31, go_sem, *]; rfl) rfl ⟨by rw [HE2.out], ?_⟩
    have hb4 := (balloc (bstore3 HB3.out (.int .i64 r.k) (.int .i64 r.n) (.string ⟨r.t.toArray⟩)) (.cells #[.int .i64 r.k, .int .i64 r.n, .string ⟨r.t.toArray⟩] 35))
    simpa [go_sem] using hb4
end Go.Proofs.YthfibaajmbhdkaaDoor
