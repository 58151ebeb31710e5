/- lex.one at a quote and at a digit, walked. -/
import Derived.Test.YtgilflkgibfjgaaDoorLx3Z
namespace Go.Proofs.YtgilflkgibfjgaaDoor
open Go.RowKit
set_option linter.unusedVariables false

theorem dig_cases {c : Int} (h : digB c = true) : c = 48 ∨ c = 49 ∨ c = 50 ∨ c = 51 ∨ c = 52 ∨ c = 53 ∨ c = 54 ∨ c = 55 ∨ c = 56 ∨ c = 57 := by
  simp only [digB, decide_eq_true_eq] at h
  omega

set_option maxHeartbeats 16000000 in
set_option maxRecDepth 100000 in
theorem one_lit (s : ByteArray) (i : Nat) (w : World) (hi : i < s.size) (hs : s.size ≤ 140737488355328) (hg : Glob w)
    (hc : bt s.data.toList i = 34 ∨ digB (bt s.data.toList i) = true) : OneOk s i w := by
  unfold OneOk
  have hE : oneS (s.data.toList.drop i) i = litS (s.data.toList.drop i) i := by
    unfold oneS
    rw [drop0, drop1, if_neg (by
      intro h
      rw [h] at hc
      simp [digB] at hc), if_pos (by
      rcases hc with h | h
      · exact .inl h
      · exact .inr (.inl h))]
  have hbt := bt_of s i hi
  have hbt1 : ∀ h : i + 1 < s.size, ((s[i + 1]'h).toNat : Int) = bt s.data.toList (i + 1) := bt_of s (i + 1)
  have HB0 := Lib.hid (show Below w.heap.size w (w.alloc (.cells #[.int .i64 0, .string ⟨#[]⟩, .int .i64 0, .int .i64 0, .string ⟨#[]⟩, .int .i64 0] 122)) from balloc (Below.refl _ _) _)
  have HLT := Lib.hid (fun W (hG : Glob W) => literal_any s i W hi hs hG)
  rw [hE]
  have HG := Lib.hid hg
  clear hE hg
  have hcs : bt s.data.toList i = 34 ∨ bt s.data.toList i = 48 ∨ bt s.data.toList i = 49 ∨ bt s.data.toList i = 50 ∨ bt s.data.toList i = 51 ∨ bt s.data.toList i = 52 ∨ bt s.data.toList i = 53 ∨ bt s.data.toList i = 54 ∨ bt s.data.toList i = 55 ∨ bt s.data.toList i = 56 ∨ bt s.data.toList i = 57 := by
    rcases hc with h | h
    · exact .inl h
    · exact .inr (dig_cases h)
  clear hc
  generalize bt s.data.toList (i + 1) = nx at *
  generalize litS (s.data.toList.drop i) i = r at *
  obtain ⟨⟨k, x, vk, vn, vt, p⟩, e0⟩ := r
  unfold Tok.v at *
  simp only at *
  by_cases h1 : i + 1 < s.size
  all_goals
    have h1' := h1
    rcases hcs with h | h | h | h | h | h | h | h | h | h | h
  all_goals
    rw [h] at hbt
    clear h
    go_enter Tryd.func143, Tryd.ntmps143
    go_wp2_with fail
    refine (HLT.out _ (HG.out.below HB0.out)).mono ?_
    rintro e w1 ⟨rfl, hb1⟩
    have hblk1 := (Blk.new w 122 #[.int .i64 0, .string ⟨#[]⟩, .int .i64 0, .int .i64 0, .string ⟨#[]⟩, .int .i64 0]).below hb1 (by simp)
    have hb1' := HB0.out.trans (hb1.mono (by simp))
    have HBLK := Lib.hid hblk1
    clear hblk1 hb1
    go_wp2_with (refine wpList_store_blk rfl 122 _ _ rfl w.heap.size 122 _ _ rfl rfl HBLK.out (by kernel_rfl) rfl (by simp [Value.oneCell']) ?_)
    intro w2 hb2 hm2 hz2
    have hB2 := Mod.own hb1' hm2 (Nat.le_refl _)
    have r0 := hb2.cell 0
    have r1 := hb2.cell 1
    have r2 := hb2.cell 2
    have r3 := hb2.cell 3
    have r4 := hb2.cell 4
    have r5 := hb2.cell 5
    have HB2 := Lib.hid hB2
    clear hb2 hm2 hz2 hB2 hb1'
    simp only [List.getElem?_toArray, List.getElem?_cons_zero, List.getElem?_cons_succ] at r0 r1 r2 r3 r4 r5
    go_wp2_with fail
    refine bodyPost_ret (v := .tuple #[.agg #[.int .i64 k, .string ⟨x.toArray⟩, .int .i64 vk, .int .i64 vn, .string ⟨vt.toArray⟩, .int .i64 p], .int .i64 e0]) (by simp [results, Tryd.results143, go_sem, *]) rfl ⟨rfl, HB2.out⟩
end Go.Proofs.YtgilflkgibfjgaaDoor
