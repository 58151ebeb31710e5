/- The laws ValueScans, ValueReads: the parts joined. osierref07.IsName; what Tokens' document asks, plainly. -/
import Derived.Test.YtgjknekoehfdfaaGreatDoorVscZ
import Derived.Test.YtgjknekoehfdfaaGreatDoorDe
import Derived.Test.YtgjknekoehfdfaaGreatDoorDf
import Derived.Test.YtgjknekoehfdfaaGreatDoorDg
import Derived.Test.YtgjknekoehfdfaaGreatDoorLf
namespace Go.Proofs.YtgjknekoehfdfaaGreatDoor
open Go.RowKit
set_option linter.unusedVariables false

theorem numOk : NumOk := by
  intro s a w ha hs hq
  by_cases hm : bt s.data.toList a = 45
  · rw [num_minus ha hm]
    by_cases he : (refNum s.data.toList a (a + 1)).e = 0
    · refine refMinusOka s a w ha hs hm hq ⟨he, fun h0 => ?_⟩
      unfold refNum at he
      split at he
      · simp [bad] at he
      · rw [if_pos ⟨h0, .inr (by omega)⟩] at he
        simp [bad] at he
    · by_cases hb : bt s.data.toList (a + 1) = 48
      · exact refMinusBada s a w ha hs hm hq ⟨he, hb⟩
      · exact refMinusBadb s a w ha hs hm hq ⟨he, hb⟩
  · rw [num_plain ha hm hq]
    by_cases he : (refNum s.data.toList a a).e = 0
    · by_cases hb : bt s.data.toList a = 48
      · exact refPlainOkb s a w ha hs hm hq ⟨he, hb⟩
      · exact refPlainOka s a w ha hs hm hq ⟨he, hb⟩
    · exact refPlainBad s a w ha hs hm hq he

end Go.Proofs.YtgjknekoehfdfaaGreatDoor
namespace Go.Proofs.YtgjknekoehfdfaaGreatDoor
open Go.RowKit
set_option linter.unusedVariables false

theorem run_take (l : List UInt8) : ∀ c ∈ l.take (runB [32, 9] l), c = 32 ∨ c = 9 := by
  rw [run_blanks]
  intro c hc
  have h1 : l.take (l.takeWhile fun c => spB c.toNat).length = l.takeWhile fun c => spB c.toNat := by
    have hp := List.takeWhile_prefix (fun c : UInt8 => spB c.toNat) (l := l)
    exact (List.prefix_iff_eq_take.1 hp).symm
  rw [h1] at hc
  have h2 := List.all_eq_true.1 (List.all_takeWhile (p := fun c : UInt8 => spB c.toNat) (l := l)) c hc
  unfold spB at h2
  rcases of_decide_eq_true h2 with h | h
  · exact .inl (UInt8.toNat_inj.1 (show c.toNat = 32 by omega))
  · exact .inr (UInt8.toNat_inj.1 (show c.toNat = 9 by omega))

theorem LX_run (l : List UInt8) (k : Nat) (hk : k ≤ l.length) : LX (l.drop k) k = LX (l.drop (k + runB [32, 9] (l.drop k))) (k + runB [32, 9] (l.drop k)) := by
  have hn := runB_le [32, 9] (l.drop k)
  have h := LX_skip ((l.drop k).take (runB [32, 9] (l.drop k))) ((l.drop k).drop (runB [32, 9] (l.drop k))) (run_take (l.drop k)) k
  rw [List.take_append_drop, List.length_take, Nat.min_eq_left hn, List.drop_drop] at h
  exact h
theorem run_past (l : List UInt8) (k : Nat) (h : k + runB [32, 9] (l.drop k) < l.length) : spB (bt l (k + runB [32, 9] (l.drop k))) = false := by
  cases hs : spB (bt l (k + runB [32, 9] (l.drop k))) with
  | false => rfl
  | true =>
    exfalso
    have hb := bt_bd l (k + runB [32, 9] (l.drop k))
    rw [← among_blanks hb.1 hb.2] at hs
    have hlen : runB [32, 9] (l.drop k) < (l.drop k).length := by rw [List.length_drop]; omega
    have hg : ∀ m, m = runB [32, 9] (l.drop k) → amongB [32, 9] (bt (l.drop k) m) = true → False := by
      intro m hm ha
      unfold runB at hm
      have hlt : m < (l.drop k).length := by rw [hm]; exact hlen
      have h1 : bt (l.drop k) m = ((l.drop k)[m].toNat : Int) := by unfold bt; rw [List.getD_eq_getElem?_getD, List.getElem?_eq_getElem hlt]; rfl
      rw [h1] at ha
      have h2 : (l.drop k).takeWhile (fun c => amongB [32, 9] c.toNat) = (l.drop k).take m := by
        have hp := List.takeWhile_prefix (fun c : UInt8 => amongB [32, 9] c.toNat) (l := l.drop k)
        rw [hm]
        exact (List.prefix_iff_eq_take.1 hp)
      have h3 : l.drop k = (l.drop k).take m ++ (l.drop k)[m] :: (l.drop k).drop (m + 1) := by
        rw [← List.drop_eq_getElem_cons hlt, List.take_append_drop]
      have h4 : ((l.drop k).takeWhile (fun c => amongB [32, 9] c.toNat)).length ≥ m + 1 := by
        rw [h3, List.takeWhile_append_of_pos (by
          intro a ha'
          rw [← h2] at ha'
          exact List.all_eq_true.1 (List.all_takeWhile (p := fun c : UInt8 => amongB [32, 9] c.toNat) (l := l.drop k)) a ha'), List.takeWhile_cons, if_pos ha]
        rw [List.length_append, List.length_take, List.length_cons]
        omega
      omega
    refine hg _ rfl ?_
    rw [bt_drop]
    exact hs

set_option maxHeartbeats 8000000 in
set_option maxRecDepth 100000 in
theorem refName_any (s : ByteArray) (w : World) (hs : s.size ≤ 281474976710656) :
    Calls Tryz.prog 83 #[.string s] w fun e w' => e = .returned (.bool (isNameB s.data.toList)) ∧ w = w' := by
  have hsl : s.data.toList.length = s.size := rfl
  have hE : isNameB s.data.toList = (decide (1 ≤ s.size) && decide (s.size ≤ 16) && !(amongB setD (bt s.data.toList 0)) && decide (nameRun s.data.toList = s.size)) := by
    have hb := bt_bd s.data.toList 0
    rw [among_digits hb.1 hb.2]
    unfold isNameB
    rw [hsl]
    by_cases h1 : 1 ≤ s.size
    · have hne : s.data.toList ≠ [] := fun e => by rw [e] at hsl; simp at hsl; omega
      by_cases hn : nameRun s.data.toList = s.size
      · have hld : letB (bt s.data.toList 0) = !(digB (bt s.data.toList 0)) := by
          cases hd : (letB (bt s.data.toList 0) || digB (bt s.data.toList 0)) with
          | false =>
            have := nameRun_stop (l := s.data.toList) (k := 0) (by omega) hd
            rw [List.drop_zero] at this
            omega
          | true =>
            cases hdd : digB (bt s.data.toList 0) with
            | true =>
              simp only [digB, decide_eq_true_eq] at hdd
              simp only [letB, Bool.not_true, decide_eq_false_iff_not]
              omega
            | false => rw [hdd, Bool.or_false] at hd; rw [hd]; rfl
        by_cases h16 : s.size ≤ 16 <;> cases hdd : digB (bt s.data.toList 0) <;> rw [hdd] at hld <;> simp [h1, hn, h16, hld, hne]
      · simp [hn]
    · have hd : s.data.toList = [] := List.length_eq_zero_iff.1 (by omega)
      simp [h1, hd]
  have hrn := fun W => run_any s 0 ⟨#[97, 98, 99, 100, 101, 102, 103, 104, 105, 106, 107, 108, 109, 110, 111, 112, 113, 114, 115, 116, 117, 118, 119, 120, 121, 122, 65, 66, 67, 68, 69, 70, 71, 72, 73, 74, 75, 76, 77, 78, 79, 80, 81, 82, 83, 84, 85, 86, 87, 88, 89, 90, 95, 48, 49, 50, 51, 52, 53, 54, 55, 56, 57]⟩ W (Nat.zero_le _) hs (by decide)
  rw [List.drop_zero, show (ByteArray.mk #[97, 98, 99, 100, 101, 102, 103, 104, 105, 106, 107, 108, 109, 110, 111, 112, 113, 114, 115, 116, 117, 118, 119, 120, 121, 122, 65, 66, 67, 68, 69, 70, 71, 72, 73, 74, 75, 76, 77, 78, 79, 80, 81, 82, 83, 84, 85, 86, 87, 88, 89, 90, 95, 48, 49, 50, 51, 52, 53, 54, 55, 56, 57]).data.toList = setL ++ setD from rfl, run_names] at hrn
  have ham := fun c W => among_any c ⟨#[48, 49, 50, 51, 52, 53, 54, 55, 56, 57]⟩ W (by decide)
  rw [show (ByteArray.mk #[48, 49, 50, 51, 52, 53, 54, 55, 56, 57]).data.toList = setD from rfl] at ham
  rw [hE]
  have HRN := Lib.hid hrn
  have HAM := Lib.hid ham
  clear hE hrn ham hsl
  generalize nameRun s.data.toList = n at *
  by_cases h1 : 1 ≤ s.size
  · have hbt := bt_of s 0 h1
    generalize bt s.data.toList 0 = c at *
    rw [decide_eq_true h1, Bool.true_and]
    by_cases h16 : s.size ≤ 16
    · rw [decide_eq_true h16, Bool.true_and]
      cases ha : amongB setD c with
      | true =>
        go_enter Tryz.func83, Tryz.ntmps83
        go_wp2_with (first | (go_at_call 148; refine (HAM.out _ _).mono ?_; rintro e w' ⟨rfl, rfl⟩) | (go_at_call 149; refine (HRN.out _).mono ?_; rintro e w' ⟨rfl, rfl⟩))
        go_ret
        exact ⟨rfl, rfl⟩
      | false =>
        by_cases hn : n = s.size
        · have qn : ((n : Int) == (s.size : Int)) = true := by simp [hn]
          rw [decide_eq_true hn]
          clear hn
          go_enter Tryz.func83, Tryz.ntmps83
          go_wp2_with (first | (go_at_call 148; refine (HAM.out _ _).mono ?_; rintro e w' ⟨rfl, rfl⟩) | (go_at_call 149; refine (HRN.out _).mono ?_; rintro e w' ⟨rfl, rfl⟩))
          go_ret
          exact ⟨rfl, rfl⟩
        · have qn : ((n : Int) == (s.size : Int)) = false := by rw [beq_eq_false_iff_ne]; omega
          rw [decide_eq_false hn]
          clear hn
          go_enter Tryz.func83, Tryz.ntmps83
          go_wp2_with (first | (go_at_call 148; refine (HAM.out _ _).mono ?_; rintro e w' ⟨rfl, rfl⟩) | (go_at_call 149; refine (HRN.out _).mono ?_; rintro e w' ⟨rfl, rfl⟩))
          go_ret
          exact ⟨rfl, rfl⟩
    · rw [decide_eq_false h16, Bool.false_and]
      go_enter Tryz.func83, Tryz.ntmps83
      go_wp2_with fail
      go_ret
      exact ⟨rfl, rfl⟩
  · rw [decide_eq_false h1, Bool.false_and]
    go_enter Tryz.func83, Tryz.ntmps83
    go_wp2_with fail
    go_ret
    exact ⟨rfl, rfl⟩
end Go.Proofs.YtgjknekoehfdfaaGreatDoor
