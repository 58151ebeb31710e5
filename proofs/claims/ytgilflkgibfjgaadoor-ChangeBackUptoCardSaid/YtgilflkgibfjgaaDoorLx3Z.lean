/- lex.one at ':' and '-', walked. -/
import Derived.Test.YtgilflkgibfjgaaDoorLx2Z
namespace Go.Proofs.YtgilflkgibfjgaaDoor
open Go.RowKit
set_option linter.unusedVariables false

set_option maxHeartbeats 8000000 in
set_option maxRecDepth 100000 in
theorem one_colon_ok (s : ByteArray) (i : Nat) (w : World) (hi : i < s.size) (hs : s.size ≤ 140737488355328)
    (hc : bt s.data.toList i = 58) (hn : bt s.data.toList (i + 1) = 45) : OneOk s i w := by
  unfold OneOk
  have hE : oneS (s.data.toList.drop i) i = (⟨3, [58, 45], 0, 0, [], i⟩, 0) := by
    unfold oneS
    rw [drop0, drop1, if_pos hc, if_pos hn]
  have h1 : i + 1 < s.size := by
    rcases Nat.lt_or_ge (i + 1) s.size with h | h
    · exact h
    · rw [bt_past (show s.data.toList.length ≤ i + 1 from h)] at hn; omega
  have hbt := bt_of s i hi
  have hbt1 := bt_of s (i + 1) h1
  rw [hc] at hbt
  rw [hn] at hbt1
  have HB0 := Lib.hid (show Below w.heap.size w (w.alloc (.cells #[.int .i64 3, .string ⟨#[58, 45]⟩, .int .i64 0, .int .i64 0, .string ⟨#[]⟩, .int .i64 i] 122)) from balloc (Below.refl _ _) _)
  have HE := Lib.hid hE
  clear hE hc hn
  go_enter Tryd.func143, Tryd.ntmps143
  go_wp2_with fail
  refine bodyPost_ret (v := .tuple #[.agg #[.int .i64 3, .string ⟨#[58, 45]⟩, .int .i64 0, .int .i64 0, .string ⟨#[]⟩, .int .i64 i], .int .i64 0]) (by simp [results, Tryd.results143, go_sem, *]) rfl ⟨by rw [HE.out]; rfl, HB0.out⟩

set_option maxHeartbeats 8000000 in
set_option maxRecDepth 100000 in
theorem one_colon_bad (s : ByteArray) (i : Nat) (w : World) (hi : i < s.size) (hs : s.size ≤ 140737488355328)
    (hc : bt s.data.toList i = 58) (hn : bt s.data.toList (i + 1) ≠ 45) : OneOk s i w := by
  unfold OneOk
  have hE : oneS (s.data.toList.drop i) i = (tok0, 71) := by
    unfold oneS
    rw [drop0, drop1, if_pos hc, if_neg hn]
  have hbt := bt_of s i hi
  rw [hc] at hbt
  have HB0 := Lib.hid (show Below w.heap.size w (w.alloc (.cells #[.int .i64 0, .string ⟨#[]⟩, .int .i64 0, .int .i64 0, .string ⟨#[]⟩, .int .i64 0] 122)) from balloc (Below.refl _ _) _)
  have HE := Lib.hid hE
  have q : (bt s.data.toList (i + 1) != 45) = true := by simpa using hn
  have hbt1 : ∀ h : i + 1 < s.size, ((s[i + 1]'h).toNat : Int) = bt s.data.toList (i + 1) := bt_of s (i + 1)
  clear hE hc hn
  generalize bt s.data.toList (i + 1) = nx at *
  by_cases h1 : i + 1 < s.size
  all_goals
    go_enter Tryd.func143, Tryd.ntmps143
    go_wp2_with fail
    refine bodyPost_ret (v := .tuple #[.agg #[.int .i64 0, .string ⟨#[]⟩, .int .i64 0, .int .i64 0, .string ⟨#[]⟩, .int .i64 0], .int .i64 71]) (by simp [results, Tryd.results143, go_sem, *]) rfl ⟨by rw [HE.out]; rfl, HB0.out⟩

set_option maxHeartbeats 8000000 in
set_option maxRecDepth 100000 in
theorem one_minus_mark (s : ByteArray) (i : Nat) (w : World) (hi : i < s.size) (hs : s.size ≤ 140737488355328)
    (hc : bt s.data.toList i = 45) (hn : digB (bt s.data.toList (i + 1)) = false) : OneOk s i w := by
  unfold OneOk
  have hE : oneS (s.data.toList.drop i) i = (⟨3, (s.extract i (i + 1)).data.toList, 0, 0, [], i⟩, 0) := by
    unfold oneS
    rw [drop0, drop1, if_neg (by omega), if_neg (by
      have : digB (bt s.data.toList i) = false := by rw [hc]; rfl
      rw [this, hn]; simp; omega), if_pos (.inl hc), take_extract]
  have hbt := bt_of s i hi
  rw [hc] at hbt
  have HB0 := Lib.hid (show Below w.heap.size w (w.alloc (.cells #[.int .i64 3, .string (s.extract i (i + 1)), .int .i64 0, .int .i64 0, .string ⟨#[]⟩, .int .i64 i] 122)) from balloc (Below.refl _ _) _)
  have hle : (i : Int) + 1 ≤ s.size := by omega
  have HE := Lib.hid hE
  have hbt1 : ∀ h : i + 1 < s.size, ((s[i + 1]'h).toNat : Int) = bt s.data.toList (i + 1) := bt_of s (i + 1)
  clear hE hc
  generalize bt s.data.toList (i + 1) = nx at *
  by_cases h1 : i + 1 < s.size
  · have hx := hbt1 h1
    clear hbt1
    go_enter Tryd.func143, Tryd.ntmps143
    go_wp2_with (go_at_call 136; refine (lexDigit_any _ _).mono ?_; rintro e w' ⟨rfl, rfl⟩)
    refine bodyPost_ret (v := .tuple #[.agg #[.int .i64 3, .string (s.extract i (i + 1)), .int .i64 0, .int .i64 0, .string ⟨#[]⟩, .int .i64 i], .int .i64 0]) (by simp [results, Tryd.results143, go_sem, *]) rfl ⟨by rw [HE.out]; rfl, HB0.out⟩
  · have hd0 : digB 0 = false := rfl
    clear hbt1
    go_enter Tryd.func143, Tryd.ntmps143
    go_wp2_with (go_at_call 136; refine (lexDigit_any _ _).mono ?_; rintro e w' ⟨rfl, rfl⟩)
    refine bodyPost_ret (v := .tuple #[.agg #[.int .i64 3, .string (s.extract i (i + 1)), .int .i64 0, .int .i64 0, .string ⟨#[]⟩, .int .i64 i], .int .i64 0]) (by simp [results, Tryd.results143, go_sem, *]) rfl ⟨by rw [HE.out]; rfl, HB0.out⟩

set_option maxHeartbeats 8000000 in
set_option maxRecDepth 100000 in
theorem one_minus_lit (s : ByteArray) (i : Nat) (w : World) (hi : i < s.size) (hs : s.size ≤ 140737488355328) (hg : Glob w)
    (hc : bt s.data.toList i = 45) (hn : digB (bt s.data.toList (i + 1)) = true) : OneOk s i w := by
  unfold OneOk
  have hE : oneS (s.data.toList.drop i) i = litS (s.data.toList.drop i) i := by
    unfold oneS
    rw [drop0, drop1, if_neg (by omega), if_pos (.inr (.inr ⟨hc, hn⟩))]
  have h1 : i + 1 < s.size := by
    rcases Nat.lt_or_ge (i + 1) s.size with h | h
    · exact h
    · rw [bt_past (show s.data.toList.length ≤ i + 1 from h)] at hn; simp [digB] at hn
  have hbt := bt_of s i hi
  have hbt1 := bt_of s (i + 1) h1
  rw [hc] at hbt
  have HB0 := Lib.hid (show Below w.heap.size w (w.alloc (.cells #[.int .i64 0, .string ⟨#[]⟩, .int .i64 0, .int .i64 0, .string ⟨#[]⟩, .int .i64 0] 122)) from balloc (Below.refl _ _) _)
  have HLT := Lib.hid (fun W (hG : Glob W) => literal_any s i W hi hs hG)
  rw [hE]
  have HG := Lib.hid hg
  clear hE hc hg
  generalize bt s.data.toList (i + 1) = nx at *
  generalize litS (s.data.toList.drop i) i = r at *
  obtain ⟨⟨k, x, vk, vn, vt, p⟩, e0⟩ := r
  unfold Tok.v at *
  simp only at *
  go_enter Tryd.func143, Tryd.ntmps143
  go_wp2_with (go_at_call 136; refine (lexDigit_any _ _).mono ?_; rintro e w' ⟨rfl, rfl⟩)
  refine (HLT.out _ (HG.out.below HB0.out)).mono ?_
  rintro e w1 ⟨rfl, hb1⟩
  have hblk1 := (Blk.new w 122 #[.int .i64 0, .string ⟨#[]⟩, .int .i64 0, .int .i64 0, .string ⟨#[]⟩, .int .i64 0]).below hb1 (by simp)
  have hb1' := HB0.out.trans (hb1.mono (by simp))
  have HBLK := Lib.hid hblk1
  clear hblk1 hb1
  go_wp2_with (refine wpList_store_blk rfl 122 _ _ rfl w.heap.size 122 _ _ rfl rfl HBLK.out (by kernel_rfl) rfl (by simp [Value.oneCell']) ?_)
  intro w2 hb2 hm2 hz2
  have hB2 := Mod.own hb1' hm2 (Nat.le_refl _)
  have r0 := hb2.cell 0
  have r1 := hb2.cell 1
  have r2 := hb2.cell 2
  have r3 := hb2.cell 3
  have r4 := hb2.cell 4
  have r5 := hb2.cell 5
  have HB2 := Lib.hid hB2
  clear hb2 hm2 hz2 hB2 hb1'
  simp only [List.getElem?_toArray, List.getElem?_cons_zero, List.getElem?_cons_succ] at r0 r1 r2 r3 r4 r5
  go_wp2_with fail
  refine bodyPost_ret (v := .tuple #[.agg #[.int .i64 k, .string ⟨x.toArray⟩, .int .i64 vk, .int .i64 vn, .string ⟨vt.toArray⟩, .int .i64 p], .int .i64 e0]) (by simp [results, Tryd.results143, go_sem, *]) rfl ⟨rfl, HB2.out⟩
end Go.Proofs.YtgilflkgibfjgaaDoor
