/- osierref01.Scan, Read, walked but for numbers; the laws ValueScans, ValueReads, given numbers. -/
import Derived.Test.YthfibaajmbhdkaaDoorVst
import Derived.Test.YthfibaajmbhdkaaDoorVcmp
namespace Go.Proofs.YthfibaajmbhdkaaDoor
open Go.RowKit
set_option linter.unusedVariables false

/-- The document's Scan, at a number. -/
def NumOk : Prop := ∀ (s : ByteArray) (a : Nat) (w : World), a < s.size → s.size ≤ 281474976710656 → bt s.data.toList a ≠ 34 →
  Calls Tryd.prog 30 #[.string s, .int .i64 a] w fun e w' => e = .returned (scanR s.data.toList a).v ∧ Below w.heap.size w w'

set_option maxHeartbeats 8000000 in
set_option maxRecDepth 100000 in
theorem refScan_any (HNK : NumOk) (s : ByteArray) (a : Int) (w : World) (hs : s.size ≤ 140737488355328) :
    Calls Tryd.prog 30 #[.string s, .int .i64 a] w fun e w' => e = .returned (scanR s.data.toList a).v ∧ Below w.heap.size w w' := by
  have hsl : s.data.toList.length = s.size := rfl
  have HB0 := Lib.hid (show Below w.heap.size w (w.alloc (.cells #[.int .i64 0, .int .i64 0, .string ⟨#[]⟩] 35)) from balloc (Below.refl _ _) _)
  by_cases h0 : a < 0
  · have HE : Hid (scanR s.data.toList a = bad 10) := Lib.hid (by unfold scanR; rw [if_pos (.inl h0)])
    clear hsl
    go_enter Tryd.func30, Tryd.ntmps30
    go_wp2_with fail
    refine bodyPost_ret (v := (bad 10).v) (by simp [results, Tryd.results30, go_sem, *]; rfl) rfl ⟨by rw [HE.out], HB0.out⟩
  by_cases h1 : (s.size : Int) < a
  · have HE : Hid (scanR s.data.toList a = bad 10) := Lib.hid (by unfold scanR; rw [if_pos (.inr (by rw [hsl]; exact h1))])
    have h0' : 0 ≤ a := by omega
    clear hsl
    go_enter Tryd.func30, Tryd.ntmps30
    go_wp2_with fail
    refine bodyPost_ret (v := (bad 10).v) (by simp [results, Tryd.results30, go_sem, *]; rfl) rfl ⟨by rw [HE.out], HB0.out⟩
  obtain ⟨p, rfl⟩ := Int.eq_ofNat_of_zero_le (show 0 ≤ a by omega)
  by_cases h2 : p = s.size
  · subst h2
    have HE : Hid (scanR s.data.toList (s.size : Nat) = bad 11) := Lib.hid (by
      have h := scanb s.data.toList []
      rw [List.append_nil, hsl] at h
      rw [h]; rfl)
    clear hsl
    go_enter Tryd.func30, Tryd.ntmps30
    go_wp2_with fail
    refine bodyPost_ret (v := (bad 11).v) (by simp [results, Tryd.results30, go_sem, *]; rfl) rfl ⟨by rw [HE.out], HB0.out⟩
  have hlt : p < s.size := by omega
  by_cases h3 : bt s.data.toList p = 34
  · have hx : Lib.hasPrefix (s.data.toList.drop p) [34] = true := by
      rw [List.drop_eq_getElem_cons (show p < s.data.toList.length from hlt)]
      simp only [Lib.hasPrefix, List.isPrefixOf, Bool.and_true, beq_iff_eq]
      unfold bt at h3
      rw [List.getD_eq_getElem?_getD, List.getElem?_eq_getElem (show p < s.data.toList.length from hlt), Option.getD_some] at h3
      exact UInt8.toNat_inj.1 (show 34 = _ by omega)
    have HE : Hid (scanR s.data.toList p = textR (s.data.toList.drop (p + 1)) (p + 1)) := Lib.hid (by
      unfold scanR
      rw [if_neg (by rw [hsl]; omega)]
      simp only [Int.toNat_natCast]
      rw [if_pos hx])
    have hbt := bt_of s p hlt
    rw [h3] at hbt
    have q0 : ((p : Int) == (s.size : Int)) = false := beq_eq_false_iff_ne.2 (by omega)
    have q0' : (p == s.size) = false := beq_eq_false_iff_ne.2 h2
    have HT := Lib.hid (fun W => refText_any s p W hlt (by omega) (by omega))
    clear hsl h3 hx h2
    go_enter Tryd.func30, Tryd.ntmps30
    go_wp2_with fail
    refine (HT.out _).mono ?_
    rintro e w1 ⟨rfl, hb1⟩
    have hb1' := HB0.out.trans (hb1.mono (by simp))
    have hblk1 := (Blk.new w 35 #[.int .i64 0, .int .i64 0, .string ⟨#[]⟩]).below hb1 (by simp)
    have r0 := hblk1.cell 0
    have r1 := hblk1.cell 1
    have r2 := hblk1.cell 2
    have z0 := hblk1.frozen 0
    have z1 := hblk1.frozen 1
    have z2 := hblk1.frozen 2
    simp at r0 r1 r2
    generalize textR (s.data.toList.drop (p + 1)) ((p : Int) + 1) = r at *
    obtain ⟨rk, rn, rt, rs, re⟩ := r
    simp only [Res.v]
    go_wp2_with fail
    refine bodyPost_ret (v := (⟨rk, rn, rt, rs, re⟩ : Res).v) (by simp [results, Tryd.results30, go_sem, *]; rfl) rfl ⟨by rw [HE.out], bstore3 hb1' _ _ _⟩
  · exact HNK s p w hlt (by omega) h3

set_option maxHeartbeats 8000000 in
set_option maxRecDepth 100000 in
theorem refRead_any (HNK : NumOk) (s : ByteArray) (w : World) (hs : s.size ≤ 140737488355328) :
    Calls Tryd.prog 32 #[.string s] w fun e w' => e = .returned (readR s.data.toList).v2 ∧ Below w.heap.size w w' := by
  have hsl : s.data.toList.length = s.size := rfl
  have hbd := scan_bad s.data.toList 0
  have hE : readR s.data.toList = if (scanR s.data.toList 0).e = 0 ∧ (scanR s.data.toList 0).stop ≠ (s.size : Int) then ⟨0, 0, [], 0, 11⟩ else ⟨(scanR s.data.toList 0).k, (scanR s.data.toList 0).n, (scanR s.data.toList 0).t, 0, (scanR s.data.toList 0).e⟩ := by unfold readR; rw [hsl]
  have hsc := fun W => refScan_any HNK s 0 W hs
  have HB0 := Lib.hid (show Below w.heap.size w (w.alloc (.cells #[.int .i64 0, .int .i64 0, .string ⟨#[]⟩] 35)) from balloc (Below.refl _ _) _)
  generalize scanR s.data.toList 0 = r at *
  obtain ⟨k, n, t, st, e0⟩ := r
  simp only [Res.v] at *
  have HSC := Lib.hid hsc
  clear hsc hsl
  have hcase : (e0 ≠ 0 ∧ readR s.data.toList = ⟨0, 0, [], 0, e0⟩) ∨ (e0 = 0 ∧ st ≠ s.size ∧ readR s.data.toList = ⟨0, 0, [], 0, 11⟩) ∨ (e0 = 0 ∧ st = s.size ∧ readR s.data.toList = ⟨k, n, t, 0, 0⟩) := by
    by_cases he : e0 = 0
    · by_cases hst : st = s.size
      · exact .inr (.inr ⟨he, hst, by rw [hE, if_neg (by simp [hst]), he]⟩)
      · exact .inr (.inl ⟨he, hst, by rw [hE, if_pos ⟨he, hst⟩]⟩)
    · obtain ⟨a1, a2, a3, _⟩ := hbd he
      exact .inl ⟨he, by rw [hE, if_neg (by simp [he]), a1, a2, a3]⟩
  clear hE hbd
  rcases hcase with ⟨he, hE⟩ | ⟨rfl, hst, hE⟩ | ⟨rfl, rfl, hE⟩
  · have q : (e0 != 0) = true := by simpa using he
    have HE := Lib.hid hE
    clear hE he
    go_enter Tryd.func32, Tryd.ntmps32
    go_wp2_with fail
    refine (HSC.out _).mono ?_
    rintro e w1 ⟨rfl, hb1⟩
    have hblk1 := (Blk.new w 35 #[.int .i64 0, .int .i64 0, .string ⟨#[]⟩]).below hb1 (by simp)
    have hlt1 := hblk1.lt
    have hb1' := HB0.out.trans (hb1.mono (by simp))
    have r0 := hblk1.cell 0
    have r1 := hblk1.cell 1
    have r2 := hblk1.cell 2
    have z0 := hblk1.frozen 0
    have z1 := hblk1.frozen 1
    have z2 := hblk1.frozen 2
    simp only [List.getElem?_toArray, List.getElem?_cons_zero, List.getElem?_cons_succ] at r0 r1 r2
    go_wp2_with fail
    refine bodyPost_ret (v := (⟨0, 0, [], 0, e0⟩ : Res).v2) (by simp [results, Tryd.results32, go_sem, *]; rfl) rfl ⟨by rw [HE.out], balloc (bstore3 hb1' _ _ _) _⟩
  · have q : (st != (s.size : Int)) = true := by simpa using hst
    have HE := Lib.hid hE
    clear hE hst
    go_enter Tryd.func32, Tryd.ntmps32
    go_wp2_with fail
    refine (HSC.out _).mono ?_
    rintro e w1 ⟨rfl, hb1⟩
    have hblk1 := (Blk.new w 35 #[.int .i64 0, .int .i64 0, .string ⟨#[]⟩]).below hb1 (by simp)
    have hlt1 := hblk1.lt
    have hb1' := HB0.out.trans (hb1.mono (by simp))
    have r0 := hblk1.cell 0
    have r1 := hblk1.cell 1
    have r2 := hblk1.cell 2
    have z0 := hblk1.frozen 0
    have z1 := hblk1.frozen 1
    have z2 := hblk1.frozen 2
    simp only [List.getElem?_toArray, List.getElem?_cons_zero, List.getElem?_cons_succ] at r0 r1 r2
    go_wp2_with fail
    refine bodyPost_ret (v := (⟨0, 0, [], 0, 11⟩ : Res).v2) (by simp [results, Tryd.results32, go_sem, *]; rfl) rfl ⟨by rw [HE.out], balloc (bstore3 hb1' _ _ _) _⟩
  · have HE := Lib.hid hE
    clear hE
    go_enter Tryd.func32, Tryd.ntmps32
    go_wp2_with fail
    refine (HSC.out _).mono ?_
    rintro e w1 ⟨rfl, hb1⟩
    have hblk1 := (Blk.new w 35 #[.int .i64 0, .int .i64 0, .string ⟨#[]⟩]).below hb1 (by simp)
    have hlt1 := hblk1.lt
    have hb1' := HB0.out.trans (hb1.mono (by simp))
    have r0 := hblk1.cell 0
    have r1 := hblk1.cell 1
    have r2 := hblk1.cell 2
    have z0 := hblk1.frozen 0
    have z1 := hblk1.frozen 1
    have z2 := hblk1.frozen 2
    simp only [List.getElem?_toArray, List.getElem?_cons_zero, List.getElem?_cons_succ] at r0 r1 r2
    go_wp2_with fail
    refine bodyPost_ret (v := (⟨k, n, t, 0, 0⟩ : Res).v2) (by simp [results, Tryd.results32, go_sem, *]; rfl) rfl ⟨by rw [HE.out], balloc (bstore3 hb1' _ _ _) _⟩

set_option maxHeartbeats 8000000 in
set_option maxRecDepth 100000 in
theorem scans_law_of (HNK : NumOk) (s : ByteArray) (a : Int) (w : World) (hs : s.size ≤ 140737488351232) (h0 : -9223372036854775808 ≤ a) (h1 : a ≤ 9223372036854775807) (hg : Glob w) :
    Calls Tryd.prog 11 #[.string s, .int .i64 a] w fun e w' => e = .returned (.bool true) ∧ Below w.heap.size w w' := by
  have hr1 := fun W (hG : Glob W) => scan_any s a W (by omega) hG
  have hr2 := fun W => refScan_any HNK s a W (by omega)
  generalize scanR s.data.toList a = r at *
  obtain ⟨k, n, t, st, e0⟩ := r
  simp only [Res.v] at *
  have HR1 := Lib.hid hr1
  have HR2 := Lib.hid hr2
  have HG := Lib.hid hg
  clear hr1 hr2 hg
  go_enter Tryd.func11, Tryd.ntmps11
  go_wp2_with fail
  refine (HR1.out _ HG.out).mono ?_
  rintro e w1 ⟨rfl, hb1⟩
  have HB1 := Lib.hid hb1
  have hz1 := hb1.size
  have HB1' := Lib.hid (show Below w.heap.size w (w1.alloc (.cells #[.int .i64 k, .int .i64 n, .string ⟨t.toArray⟩] 35)) from balloc HB1.out _)
  clear hb1
  go_wp2_with fail
  refine (HR2.out _).mono ?_
  rintro e w2 ⟨rfl, hb2⟩
  have a0 := hb2.cell (p := ⟨w1.heap.size, 0, none⟩) (by simp)
  have a1 := hb2.cell (p := ⟨w1.heap.size, 1, none⟩) (by simp)
  have a2 := hb2.cell (p := ⟨w1.heap.size, 2, none⟩) (by simp)
  simp [go_sem] at a0 a1 a2
  have z2 := hb2.size
  simp at z2
  have z3 : w1.heap.size < w2.heap.size := by omega
  have HB2 := Lib.hid (HB1'.out.trans (hb2.mono (by simp; omega)))
  have HB2' := Lib.hid (show Below w.heap.size w (w2.alloc (.cells #[.int .i64 k, .int .i64 n, .string ⟨t.toArray⟩] 35)) from balloc HB2.out _)
  clear hb2
  go_wp2_with fail
  refine (awake01 _ (HG.out.below HB2'.out)).mono ?_
  rintro e w3 ⟨rfl, hb3⟩
  have b0 := hb3.cell (p := ⟨w1.heap.size, 0, none⟩) (by simp; omega)
  have b1 := hb3.cell (p := ⟨w1.heap.size, 1, none⟩) (by simp; omega)
  have b2 := hb3.cell (p := ⟨w1.heap.size, 2, none⟩) (by simp; omega)
  have c0 := hb3.cell (p := ⟨w2.heap.size, 0, none⟩) (by simp)
  have c1 := hb3.cell (p := ⟨w2.heap.size, 1, none⟩) (by simp)
  have c2 := hb3.cell (p := ⟨w2.heap.size, 2, none⟩) (by simp)
  simp [go_sem, z3, a0, a1, a2] at b0 b1 b2 c0 c1 c2
  have HB3 := Lib.hid (HB2'.out.trans (hb3.mono (by simp; omega)))
  clear hb3
  go_wp2_with fail
  go_ret
  exact ⟨by simp, HB3.out⟩

set_option maxHeartbeats 8000000 in
set_option maxRecDepth 100000 in
theorem reads_law_of (HNK : NumOk) (s : ByteArray) (w : World) (hs : s.size ≤ 140737488351232) (hg : Glob w) :
    Calls Tryd.prog 12 #[.string s] w fun e w' => e = .returned (.bool true) ∧ Below w.heap.size w w' := by
  have hr1 := fun W (hG : Glob W) => read_any s W (by omega) hG
  have hr2 := fun W => refRead_any HNK s W (by omega)
  generalize readR s.data.toList = r at *
  obtain ⟨k, n, t, st, e0⟩ := r
  simp only [Res.v2] at *
  have HR1 := Lib.hid hr1
  have HR2 := Lib.hid hr2
  have HG := Lib.hid hg
  clear hr1 hr2 hg
  go_enter Tryd.func12, Tryd.ntmps12
  go_wp2_with fail
  refine (HR1.out _ HG.out).mono ?_
  rintro e w1 ⟨rfl, hb1⟩
  have HB1 := Lib.hid hb1
  have hz1 := hb1.size
  have HB1' := Lib.hid (show Below w.heap.size w (w1.alloc (.cells #[.int .i64 k, .int .i64 n, .string ⟨t.toArray⟩] 35)) from balloc HB1.out _)
  clear hb1
  go_wp2_with fail
  refine (HR2.out _).mono ?_
  rintro e w2 ⟨rfl, hb2⟩
  have a0 := hb2.cell (p := ⟨w1.heap.size, 0, none⟩) (by simp)
  have a1 := hb2.cell (p := ⟨w1.heap.size, 1, none⟩) (by simp)
  have a2 := hb2.cell (p := ⟨w1.heap.size, 2, none⟩) (by simp)
  simp [go_sem] at a0 a1 a2
  have z2 := hb2.size
  simp at z2
  have z3 : w1.heap.size < w2.heap.size := by omega
  have HB2 := Lib.hid (HB1'.out.trans (hb2.mono (by simp; omega)))
  have HB2' := Lib.hid (show Below w.heap.size w (w2.alloc (.cells #[.int .i64 k, .int .i64 n, .string ⟨t.toArray⟩] 35)) from balloc HB2.out _)
  clear hb2
  go_wp2_with fail
  refine (awake01 _ (HG.out.below HB2'.out)).mono ?_
  rintro e w3 ⟨rfl, hb3⟩
  have b0 := hb3.cell (p := ⟨w1.heap.size, 0, none⟩) (by simp; omega)
  have b1 := hb3.cell (p := ⟨w1.heap.size, 1, none⟩) (by simp; omega)
  have b2 := hb3.cell (p := ⟨w1.heap.size, 2, none⟩) (by simp; omega)
  have c0 := hb3.cell (p := ⟨w2.heap.size, 0, none⟩) (by simp)
  have c1 := hb3.cell (p := ⟨w2.heap.size, 1, none⟩) (by simp)
  have c2 := hb3.cell (p := ⟨w2.heap.size, 2, none⟩) (by simp)
  simp [go_sem, z3, a0, a1, a2] at b0 b1 b2 c0 c1 c2
  have HB3 := Lib.hid (HB2'.out.trans (hb3.mono (by simp; omega)))
  clear hb3
  go_wp2_with fail
  go_ret
  exact ⟨by simp, HB3.out⟩
end Go.Proofs.YthfibaajmbhdkaaDoor
