/- lex.one at a quote and at a digit, walked. lex.one at a letter and at what begins no token, walked. -/
import Derived.Test.YtgjknekoehfdfaaGreatDoorLx
namespace Go.Proofs.YtgjknekoehfdfaaGreatDoor
open Go.RowKit
set_option linter.unusedVariables false

theorem dig_cases {c : Int} (h : digB c = true) : c = 48 ∨ c = 49 ∨ c = 50 ∨ c = 51 ∨ c = 52 ∨ c = 53 ∨ c = 54 ∨ c = 55 ∨ c = 56 ∨ c = 57 := by
  simp only [digB, decide_eq_true_eq] at h
  omega

set_option maxHeartbeats 16000000 in
set_option maxRecDepth 100000 in
theorem one_lit (s : ByteArray) (i : Nat) (w : World) (hi : i < s.size) (hs : s.size ≤ 140737488355328) (hg : Glob w)
    (hc : bt s.data.toList i = 34 ∨ digB (bt s.data.toList i) = true) : OneOk s i w := by
  unfold OneOk
  have hE : oneS (s.data.toList.drop i) i = litS (s.data.toList.drop i) i := by
    unfold oneS
    rw [drop0, drop1, if_neg (by
      intro h
      rw [h] at hc
      simp [digB] at hc), if_pos (by
      rcases hc with h | h
      · exact .inl h
      · exact .inr (.inl h))]
  have hbt := bt_of s i hi
  have hbt1 : ∀ h : i + 1 < s.size, ((s[i + 1]'h).toNat : Int) = bt s.data.toList (i + 1) := bt_of s (i + 1)
  have HB0 := Lib.hid (show Below w.heap.size w (w.alloc (.cells #[.int .i64 0, .string ⟨#[]⟩, .int .i64 0, .int .i64 0, .string ⟨#[]⟩, .int .i64 0] 101)) from balloc (Below.refl _ _) _)
  have HLT := Lib.hid (fun W (hG : Glob W) => literal_any s i W hi hs hG)
  rw [hE]
  have HG := Lib.hid hg
  clear hE hg
  have hcs : bt s.data.toList i = 34 ∨ bt s.data.toList i = 48 ∨ bt s.data.toList i = 49 ∨ bt s.data.toList i = 50 ∨ bt s.data.toList i = 51 ∨ bt s.data.toList i = 52 ∨ bt s.data.toList i = 53 ∨ bt s.data.toList i = 54 ∨ bt s.data.toList i = 55 ∨ bt s.data.toList i = 56 ∨ bt s.data.toList i = 57 := by
    rcases hc with h | h
    · exact .inl h
    · exact .inr (dig_cases h)
  clear hc
  generalize bt s.data.toList (i + 1) = nx at *
  generalize litS (s.data.toList.drop i) i = r at *
  obtain ⟨⟨k, x, vk, vn, vt, p⟩, e0⟩ := r
  unfold Tok.v at *
  simp only at *
  by_cases h1 : i + 1 < s.size
  all_goals
    have h1' := h1
    rcases hcs with h | h | h | h | h | h | h | h | h | h | h
  all_goals
    rw [h] at hbt
    clear h
    go_enter Tryz.func152, Tryz.ntmps152
    go_wp2_with fail
    refine (HLT.out _ (HG.out.below HB0.out)).mono ?_
    rintro e w1 ⟨rfl, hb1⟩
    have hblk1 := (Blk.new w 101 #[.int .i64 0, .string ⟨#[]⟩, .int .i64 0, .int .i64 0, .string ⟨#[]⟩, .int .i64 0]).below hb1 (by simp)
    have hb1' := HB0.out.trans (hb1.mono (by simp))
    have HBLK := Lib.hid hblk1
    clear hblk1 hb1
    go_wp2_with (refine wpList_store_blk rfl 101 _ _ rfl w.heap.size 101 _ _ rfl rfl HBLK.out (by kernel_rfl) rfl (by simp [Value.oneCell']) ?_)
    intro w2 hb2 hm2 hz2
    have hB2 := Mod.own hb1' hm2 (Nat.le_refl _)
    have r0 := hb2.cell 0
    have r1 := hb2.cell 1
    have r2 := hb2.cell 2
    have r3 := hb2.cell 3
    have r4 := hb2.cell 4
    have r5 := hb2.cell 5
    have HB2 := Lib.hid hB2
    clear hb2 hm2 hz2 hB2 hb1'
    simp only [List.getElem?_toArray, List.getElem?_cons_zero, List.getElem?_cons_succ] at r0 r1 r2 r3 r4 r5
    go_wp2_with fail
    refine bodyPost_ret (v := .tuple #[.agg #[.int .i64 k, .string ⟨x.toArray⟩, .int .i64 vk, .int .i64 vn, .string ⟨vt.toArray⟩, .int .i64 p], .int .i64 e0]) (by simp [results, Tryz.results152, go_sem, *]) rfl ⟨rfl, HB2.out⟩
end Go.Proofs.YtgjknekoehfdfaaGreatDoor
namespace Go.Proofs.YtgjknekoehfdfaaGreatDoor
open Go.RowKit
set_option linter.unusedVariables false

/-- None of the bytes that one asks for one by one. -/
structure Far (c : Int) : Prop where
  a0 : (c == 58) = false
  a1 : (c == 45) = false
  a2 : (c == 40) = false
  a3 : (c == 41) = false
  a4 : (c == 44) = false
  a5 : (c == 43) = false
  a6 : (c == 34) = false
  b0 : (c == 48) = false
  b1 : (c == 49) = false
  b2 : (c == 50) = false
  b3 : (c == 51) = false
  b4 : (c == 52) = false
  b5 : (c == 53) = false
  b6 : (c == 54) = false
  b7 : (c == 55) = false
  b8 : (c == 56) = false
  b9 : (c == 57) = false
theorem far_of {c : Int} (h : c ≠ 58 ∧ c ≠ 45 ∧ c ≠ 40 ∧ c ≠ 41 ∧ c ≠ 44 ∧ c ≠ 43 ∧ c ≠ 34 ∧ digB c = false) : Far c := by
  obtain ⟨h0, h1, h2, h3, h4, h5, h6, h7⟩ := h
  simp only [digB, decide_eq_false_iff_not] at h7
  constructor <;> (rw [beq_eq_false_iff_ne]; omega)

set_option maxHeartbeats 16000000 in
set_option maxRecDepth 100000 in
theorem one_other (s : ByteArray) (i : Nat) (w : World) (hi : i < s.size) (hs : s.size ≤ 140737488355328)
    (hf : bt s.data.toList i ≠ 58 ∧ bt s.data.toList i ≠ 45 ∧ bt s.data.toList i ≠ 40 ∧ bt s.data.toList i ≠ 41 ∧ bt s.data.toList i ≠ 44 ∧ bt s.data.toList i ≠ 43 ∧ bt s.data.toList i ≠ 34 ∧ digB (bt s.data.toList i) = false)
    (hl : letB (bt s.data.toList i) = false) : OneOk s i w := by
  unfold OneOk
  have hE : oneS (s.data.toList.drop i) i = (tok0, 71) := by
    obtain ⟨h0, h1, h2, h3, h4, h5, h6, h7⟩ := hf
    unfold oneS
    rw [drop0, drop1, if_neg h0, if_neg (by rw [h7]; simp; omega), if_neg (by omega), hl]
    rfl
  obtain ⟨a0, a1, a2, a3, a4, a5, a6, b0, b1, b2, b3, b4, b5, b6, b7, b8, b9⟩ := far_of hf
  have hbt := bt_of s i hi
  have hbt1 : ∀ h : i + 1 < s.size, ((s[i + 1]'h).toNat : Int) = bt s.data.toList (i + 1) := bt_of s (i + 1)
  have HB0 := Lib.hid (show Below w.heap.size w (w.alloc (.cells #[.int .i64 0, .string ⟨#[]⟩, .int .i64 0, .int .i64 0, .string ⟨#[]⟩, .int .i64 0] 101)) from balloc (Below.refl _ _) _)
  have HE := Lib.hid hE
  clear hE hf
  generalize bt s.data.toList (i + 1) = nx at *
  generalize bt s.data.toList i = c at *
  by_cases h1 : i + 1 < s.size
  all_goals
    go_enter Tryz.func152, Tryz.ntmps152
    go_wp2_with (go_at_call 138; refine (isLetter_any _ _).mono ?_; rintro e w' ⟨rfl, rfl⟩)
    refine bodyPost_ret (v := .tuple #[.agg #[.int .i64 0, .string ⟨#[]⟩, .int .i64 0, .int .i64 0, .string ⟨#[]⟩, .int .i64 0], .int .i64 71]) (by simp [results, Tryz.results152, go_sem, *]) rfl ⟨by rw [HE.out]; rfl, HB0.out⟩

theorem let_far {c : Int} (h : letB c = true) : c ≠ 58 ∧ c ≠ 45 ∧ c ≠ 40 ∧ c ≠ 41 ∧ c ≠ 44 ∧ c ≠ 43 ∧ c ≠ 34 ∧ digB c = false := by
  simp only [letB, digB, decide_eq_true_eq, decide_eq_false_iff_not] at h ⊢
  omega

set_option maxHeartbeats 16000000 in
set_option maxRecDepth 100000 in
theorem one_name_walk (s : ByteArray) (i : Nat) (w : World) (hi : i < s.size) (hs : s.size ≤ 140737488355328)
    (hl : letB (bt s.data.toList i) = true) : OneOk s i w := by
  unfold OneOk
  have hf := let_far hl
  have hE : oneS (s.data.toList.drop i) i = if 16 < nameRun (s.data.toList.drop i) then (tok0, 72) else (⟨1, (s.extract i (i + nameRun (s.data.toList.drop i))).data.toList, 0, 0, [], i⟩, 0) := by
    obtain ⟨h0, h1, h2, h3, h4, h5, h6, h7⟩ := hf
    unfold oneS
    rw [drop0, drop1, if_neg h0, if_neg (by rw [h7]; simp; omega), if_neg (by omega), hl, if_pos rfl, take_extract]
  obtain ⟨a0, a1, a2, a3, a4, a5, a6, b0, b1, b2, b3, b4, b5, b6, b7, b8, b9⟩ := far_of hf
  have hbt := bt_of s i hi
  have hbt1 : ∀ h : i + 1 < s.size, ((s[i + 1]'h).toNat : Int) = bt s.data.toList (i + 1) := bt_of s (i + 1)
  have hne := nameEnd_any s i
  have hnl := nameRun_le (s.data.toList.drop i)
  rw [List.length_drop, show s.data.toList.length = s.size from rfl] at hnl
  generalize nameRun (s.data.toList.drop i) = n at *
  have HNE := Lib.hid hne
  clear hf hne
  generalize bt s.data.toList (i + 1) = nx at *
  generalize bt s.data.toList i = c at *
  have hin : (i : Int) + (n : Int) ≤ s.size := by omega
  have hin2 : (i : Int) ≤ (i : Int) + (n : Int) := by omega
  have htn : ((i : Int) + (n : Int)).toNat = i + n := by omega
  by_cases h16 : 16 < n
  · rw [if_pos h16] at hE
    have HB0 := Lib.hid (show Below w.heap.size w (w.alloc (.cells #[.int .i64 0, .string ⟨#[]⟩, .int .i64 0, .int .i64 0, .string ⟨#[]⟩, .int .i64 0] 101)) from balloc (Below.refl _ _) _)
    have HE := Lib.hid hE
    have h17 : (16 : Int) < (i : Int) + (n : Int) - (i : Int) := by omega
    clear hE
    have h1 : i + 1 < s.size := by omega
    go_enter Tryz.func152, Tryz.ntmps152
    go_wp2_with (first | (go_at_call 138; refine (isLetter_any _ _).mono ?_; rintro e w' ⟨rfl, rfl⟩) | (go_at_call 139; refine (HNE.out _ (by omega) (by omega)).mono ?_; rintro e w' ⟨rfl, rfl⟩))
    refine bodyPost_ret (v := .tuple #[.agg #[.int .i64 0, .string ⟨#[]⟩, .int .i64 0, .int .i64 0, .string ⟨#[]⟩, .int .i64 0], .int .i64 72]) (by simp [results, Tryz.results152, go_sem, *]) rfl ⟨by rw [HE.out]; rfl, HB0.out⟩
  · rw [if_neg h16] at hE
    have HB0 := Lib.hid (show Below w.heap.size w (w.alloc (.cells #[.int .i64 1, .string (s.extract i (i + n)), .int .i64 0, .int .i64 0, .string ⟨#[]⟩, .int .i64 i] 101)) from balloc (Below.refl _ _) _)
    have HE := Lib.hid hE
    have h17 : (i : Int) + (n : Int) - (i : Int) ≤ 16 := by omega
    clear hE
    by_cases h1 : i + 1 < s.size
    all_goals
      go_enter Tryz.func152, Tryz.ntmps152
      go_wp2_with (first | (go_at_call 138; refine (isLetter_any _ _).mono ?_; rintro e w' ⟨rfl, rfl⟩) | (go_at_call 139; refine (HNE.out _ (by omega) (by omega)).mono ?_; rintro e w' ⟨rfl, rfl⟩))
      refine bodyPost_ret (v := .tuple #[.agg #[.int .i64 1, .string (s.extract i (i + n)), .int .i64 0, .int .i64 0, .string ⟨#[]⟩, .int .i64 i], .int .i64 0]) (by simp [results, Tryz.results152, go_sem, *]) rfl ⟨by rw [HE.out]; rfl, HB0.out⟩
end Go.Proofs.YtgjknekoehfdfaaGreatDoor
