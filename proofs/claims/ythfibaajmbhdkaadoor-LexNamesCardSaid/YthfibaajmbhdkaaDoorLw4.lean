/- osierlaw07.LexNames, walked. -/
import Derived.Test.YthfibaajmbhdkaaDoorLw1
import Derived.Test.YthfibaajmbhdkaaDoorRl1
namespace Go.Proofs.YthfibaajmbhdkaaDoor
open Go.RowKit
set_option linter.unusedVariables false

theorem names_cases (l : List UInt8) : (isNameB l = true ∧ lexR l = ⟨[⟨1, l, 0, 0, [], 0⟩, endTok l.length], 0, 0⟩) ∨
    (isNameB l = false ∧ ((lexR l).e ≠ 0 ∨ ((lexR l).e = 0 ∧ (lexR l).ts.length ≠ 2) ∨ ((lexR l).e = 0 ∧ ∃ t u, (lexR l).ts = [t, u] ∧ (t.k ≠ 1 ∨ (t.k = 1 ∧ t.x ≠ l))))) := by
  cases hn : isNameB l with
  | true =>
    have h := hn
    unfold isNameB at h
    simp only [decide_eq_true_eq] at h
    exact .inl ⟨rfl, by rw [lexR_short (by omega)]; exact LX_name hn⟩
  | false =>
    refine .inr ⟨rfl, ?_⟩
    by_cases he : (lexR l).e = 0
    · have hl : l.length ≤ 16384 := by
        rcases Nat.lt_or_ge 16384 l.length with h | h
        · rw [lexR_long h] at he; simp at he
        · exact h
      by_cases h2 : (lexR l).ts.length = 2
      · obtain ⟨t, u, htu⟩ : ∃ t u, (lexR l).ts = [t, u] := by
          match hts : (lexR l).ts, h2 with
          | [t, u], _ => exact ⟨t, u, rfl⟩
        refine .inr (.inr ⟨he, t, u, htu, ?_⟩)
        by_cases hk : t.k = 1
        · refine .inr ⟨hk, fun hx => ?_⟩
          rw [lexR_short hl] at htu
          have := LX_named _ l 0 l t [u] (Nat.le_refl _) (Nat.le_refl _) htu hk hx
          rw [hn] at this; cases this
        · exact .inl hk
      · exact .inr (.inl ⟨he, h2⟩)
    · exact .inl he

set_option maxHeartbeats 8000000 in
set_option maxRecDepth 100000 in
theorem names_law (s : ByteArray) (w : World) (hs : s.size ≤ 140737488351232) (hg : Glob w) :
    Calls Tryd.prog 4 #[.string s] w fun e w' => e = .returned (.bool true) ∧ Below w.heap.size w w' := by
  have HIN := Lib.hid (fun W => isName_any s W (by omega))
  have HRN := Lib.hid (fun W => refName_any s W (by omega))
  have hT := fun W => tokens_any s W (by omega)
  unfold TokPost at hT
  have HG := Lib.hid hg
  have hcs := names_cases s.data.toList
  have hct := lexR_count s.data.toList
  rw [show s.data.toList.length = s.size from rfl] at hct
  clear hg
  rcases hcs with ⟨hb, hR⟩ | ⟨hb, hR⟩
  · rw [hb] at HIN HRN
    rw [hR] at hT
    simp only [List.length_cons, List.length_nil] at hT
    have HT := Lib.hid hT
    have q : (s.toList == s.data.toList) = true := by rw [ByteArray.toList_eq]; exact beq_self_eq_true _
    clear hT hR hb hct
    go_enter Tryd.func4, Tryd.ntmps4
    go_wp2_with fail
    refine (HIN.out _).mono ?_
    rintro e w' ⟨rfl, rfl⟩
    go_wp2_with fail
    refine (HRN.out _).mono ?_
    rintro e w' ⟨rfl, rfl⟩
    go_wp2_with fail
    refine (awake07 _ HG.out).mono ?_
    rintro e w1 ⟨rfl, hb1⟩
    go_wp2_with fail
    refine (HT.out _ (HG.out.below hb1)).mono ?_
    rintro e w2 ⟨a, cap, rfl, hown, hb2⟩
    have HB2 := Lib.hid (hb1.trans (hb2.mono hb1.size))
    obtain ⟨g, rfl, _, _⟩ := own_some hown (by decide)
    obtain ⟨c0, c1, c2, c3, c4, c5⟩ := own_tok hown rfl (i := 0) rfl
    simp only [Nat.zero_mul, Nat.zero_add] at c0 c1
    clear c2 c3 c4 c5 hown hb1 hb2
    go_wp2_with fail
    refine (HRN.out _).mono ?_
    rintro e w' ⟨rfl, rfl⟩
    go_wp2_with fail
    go_ret
    exact ⟨by first | rfl | simp, HB2.out⟩
  · rw [hb] at HIN HRN
    generalize lexR s.data.toList = R at *
    obtain ⟨ts, p, e0⟩ := R
    simp only at hT hR hct
    have HT := Lib.hid hT
    clear hT hb
    rcases hR with he | ⟨he, hl⟩ | ⟨he, t, u, htu, hk⟩
    · have q0 : (e0 == 0) = false := by rw [beq_eq_false_iff_ne]; exact he
      clear he
      go_enter Tryd.func4, Tryd.ntmps4
      go_wp2_with fail
      refine (HIN.out _).mono ?_
      rintro e w' ⟨rfl, rfl⟩
      go_wp2_with fail
      refine (HRN.out _).mono ?_
      rintro e w' ⟨rfl, rfl⟩
      go_wp2_with fail
      refine (awake07 _ HG.out).mono ?_
      rintro e w1 ⟨rfl, hb1⟩
      go_wp2_with fail
      refine (HT.out _ (HG.out.below hb1)).mono ?_
      rintro e w2 ⟨a, cap, rfl, hown, hb2⟩
      have HB2 := Lib.hid (hb1.trans (hb2.mono hb1.size))
      clear hown hb1 hb2
      go_wp2_with fail
      refine (HRN.out _).mono ?_
      rintro e w' ⟨rfl, rfl⟩
      go_wp2_with fail
      go_ret
      exact ⟨by first | rfl | simp, HB2.out⟩
    · subst he
      have q2 : ((ts.length : Int) == 2) = false := by rw [beq_eq_false_iff_ne]; omega
      go_enter Tryd.func4, Tryd.ntmps4
      go_wp2_with fail
      refine (HIN.out _).mono ?_
      rintro e w' ⟨rfl, rfl⟩
      go_wp2_with fail
      refine (HRN.out _).mono ?_
      rintro e w' ⟨rfl, rfl⟩
      go_wp2_with fail
      refine (awake07 _ HG.out).mono ?_
      rintro e w1 ⟨rfl, hb1⟩
      go_wp2_with fail
      refine (HT.out _ (HG.out.below hb1)).mono ?_
      rintro e w2 ⟨a, cap, rfl, hown, hb2⟩
      have HB2 := Lib.hid (hb1.trans (hb2.mono hb1.size))
      clear hown hb1 hb2
      go_wp2_with fail
      refine (HRN.out _).mono ?_
      rintro e w' ⟨rfl, rfl⟩
      go_wp2_with fail
      go_ret
      exact ⟨by first | rfl | simp, HB2.out⟩
    · subst he htu
      have hq : (t.k == 1) = false ∨ ((t.k == 1) = true ∧ (t.x == s.toList) = false) := by
        rcases hk with h | ⟨h, h'⟩
        · exact .inl (by rw [beq_eq_false_iff_ne]; exact h)
        · exact .inr ⟨by simpa using h, by rw [beq_eq_false_iff_ne, ByteArray.toList_eq]; exact h'⟩
      obtain ⟨tk, tx, tvk, tvn, tvt, tp⟩ := t
      simp only at hq
      clear hk hct
      rcases hq with q1 | ⟨q1, q2⟩
      all_goals
        go_enter Tryd.func4, Tryd.ntmps4
        go_wp2_with fail
        refine (HIN.out _).mono ?_
        rintro e w' ⟨rfl, rfl⟩
        go_wp2_with fail
        refine (HRN.out _).mono ?_
        rintro e w' ⟨rfl, rfl⟩
        go_wp2_with fail
        refine (awake07 _ HG.out).mono ?_
        rintro e w1 ⟨rfl, hb1⟩
        go_wp2_with fail
        refine (HT.out _ (HG.out.below hb1)).mono ?_
        rintro e w2 ⟨a, cap, rfl, hown, hb2⟩
        have HB2 := Lib.hid (hb1.trans (hb2.mono hb1.size))
        simp only [List.length_cons, List.length_nil] at hown ⊢
        obtain ⟨g, rfl, _, _⟩ := own_some hown (by decide)
        obtain ⟨c0, c1, c2, c3, c4, c5⟩ := own_tok hown rfl (i := 0) rfl
        simp only [Nat.zero_mul, Nat.zero_add] at c0 c1
        clear c2 c3 c4 c5 hown hb1 hb2
        go_wp2_with fail
        refine (HRN.out _).mono ?_
        rintro e w' ⟨rfl, rfl⟩
        go_wp2_with fail
        go_ret
        exact ⟨by first | rfl | simp, HB2.out⟩
end Go.Proofs.YthfibaajmbhdkaaDoor
