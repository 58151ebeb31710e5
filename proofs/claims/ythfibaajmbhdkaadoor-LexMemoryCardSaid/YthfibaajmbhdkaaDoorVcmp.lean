/- osierref01.Texts, Compare, walked; the law ValueCompares. -/
import Derived.Test.YthfibaajmbhdkaaDoorVala
import Derived.Test.YthfibaajmbhdkaaDoorCmp
import Derived.Deep.RegionHeld3
import Derived.Deep.MidRow
namespace Go.Proofs.YthfibaajmbhdkaaDoor
open Go.RowKit
set_option linter.unusedVariables false

theorem cmp_step {a b : List UInt8} {k : Nat} (ha : k < a.length) (hb : k < b.length) :
    Lib.compareBytes (a.drop k) (b.drop k) = if bt a k < bt b k then -1 else if bt b k < bt a k then 1 else Lib.compareBytes (a.drop (k + 1)) (b.drop (k + 1)) := by
  rw [List.drop_eq_getElem_cons ha, List.drop_eq_getElem_cons hb, Lib.compareBytes]
  have ea : bt a k = ((a[k]).toNat : Int) := by unfold bt; simp [ha]
  have eb : bt b k = ((b[k]).toNat : Int) := by unfold bt; simp [hb]
  rw [ea, eb]
  simp only [UInt8.lt_iff_toNat_lt, Int.ofNat_lt]
theorem cmp_end {a b : List UInt8} {k : Nat} (h : a.length ≤ k ∨ b.length ≤ k) (hk : k ≤ a.length) (hk2 : k ≤ b.length) :
    Lib.compareBytes (a.drop k) (b.drop k) = if a.length < b.length then -1 else if b.length < a.length then 1 else 0 := by
  cases ha : a.drop k with
  | nil =>
    have la : a.length ≤ k := List.drop_eq_nil_iff.1 ha
    cases hb : b.drop k with
    | nil =>
      have lb : b.length ≤ k := List.drop_eq_nil_iff.1 hb
      rw [if_neg (by omega), if_neg (by omega)]; rfl
    | cons x y =>
      have lb : k < b.length := by
        rcases Nat.lt_or_ge k b.length with h | h
        · exact h
        · rw [List.drop_of_length_le h] at hb; cases hb
      rw [if_pos (by omega)]; rfl
  | cons x y =>
    have la : k < a.length := by
      rcases Nat.lt_or_ge k a.length with h | h
      · exact h
      · rw [List.drop_of_length_le h] at ha; cases ha
    rw [List.drop_of_length_le (by omega : b.length ≤ k)]
    rw [if_neg (by omega), if_pos (by omega)]; rfl

set_option maxHeartbeats 4000000 in
theorem texts_any (a b : ByteArray) (w : World) (ha : a.size ≤ 281474976710656) :
    Calls Tryd.prog 51 #[.string a, .string b] w fun e w' => e = .returned (.int .i64 (Lib.compareBytes a.data.toList b.data.toList)) ∧ Below w.heap.size w w' := by
  have la : a.data.toList.length = a.size := rfl
  have lb : b.data.toList.length = b.size := rfl
  go_enter Tryd.func51, Tryd.ntmps51
  go_wp2_with fail
  go_loopw [5] (fun ix wr => ∃ k : Nat, k ≤ a.size ∧ k ≤ b.size ∧ ix = .int .i64 k ∧ Below w.heap.size w wr ∧ Lib.compareBytes a.data.toList b.data.toList = Lib.compareBytes (a.data.toList.drop k) (b.data.toList.drop k)) (fun ix _ => a.size - (intOf ix).toNat)
  case atStart => exact ⟨0, Nat.zero_le _, Nat.zero_le _, rfl, Below.refl _ _, rfl⟩
  case round =>
    obtain ⟨k, hka, hkb, rfl, hbel, hcmp⟩ := hrel
    by_cases hl : k < a.size ∧ k < b.size
    · obtain ⟨hla, hlb⟩ := hl
      have hst := cmp_step (a := a.data.toList) (b := b.data.toList) (by omega : k < a.data.toList.length) (by omega)
      have e1 := bt_of a k hla
      have e2 := bt_of b k hlb
      have HB := Lib.hid hbel
      generalize bt a.data.toList k = c1 at *
      generalize bt b.data.toList k = c2 at *
      by_cases h1 : c1 < c2
      · rw [if_pos h1] at hst
        have HE := Lib.hid (hcmp.trans hst)
        clear hcmp hst la lb hbel
        go_wp2_with fail
        go_quiet (fail)
        go_wp2_with fail
        go_ret
        exact ⟨by rw [HE.out]; rfl, by repeat (first | exact HB.out | refine bdrewN ?_ _ | refine bdrew ?_)⟩
      · rw [if_neg h1] at hst
        by_cases h2 : c2 < c1
        · rw [if_pos h2] at hst
          have HE := Lib.hid (hcmp.trans hst)
          clear hcmp hst la lb hbel
          go_wp2_with fail
          go_quiet (fail)
          go_wp2_with fail
          go_quiet (fail)
          go_wp2_with fail
          go_ret
          exact ⟨by rw [HE.out]; rfl, by repeat (first | exact HB.out | refine bdrewN ?_ _ | refine bdrew ?_)⟩
        · rw [if_neg h2] at hst
          have HE := Lib.hid (hcmp.trans hst)
          clear hcmp hst la lb hbel
          go_wp2_with fail
          go_quiet (fail)
          go_wp2_with fail
          go_quiet (fail)
          go_wp2_with fail
          go_round
          case rel => exact ⟨k + 1, by omega, by omega, by go_num, by repeat (first | exact HB.out | refine bdrewN ?_ _ | refine bdrew ?_), HE.out⟩
          case measure => simp [intOf]; omega
    · have hst := cmp_end (a := a.data.toList) (b := b.data.toList) (k := k) (by omega) (by omega) (by omega)
      rw [la, lb] at hst
      have HE := Lib.hid (hcmp.trans hst)
      have HB := Lib.hid hbel
      clear hcmp hst la lb hbel
      by_cases hla : k < a.size <;> by_cases hlb : k < b.size <;> first | (exfalso; omega) | skip
      all_goals
        by_cases h1 : a.size < b.size
        · have g1 : decide ((a.size : Int) < b.size) = true := by simp; omega
          go_wp2_with fail
          go_ret
          exact ⟨by rw [HE.out, if_pos h1]; try simp, HB.out⟩
        · have g1 : decide ((a.size : Int) < b.size) = false := by simp; omega
          by_cases h2 : b.size < a.size
          · have g2 : decide ((b.size : Int) < a.size) = true := by simp; omega
            go_wp2_with fail
            go_ret
            exact ⟨by rw [HE.out, if_neg h1, if_pos h2]; try simp, HB.out⟩
          · have g2 : decide ((b.size : Int) < a.size) = false := by simp; omega
            go_wp2_with fail
            go_ret
            exact ⟨by rw [HE.out, if_neg h1, if_neg h2]; try simp, HB.out⟩

theorem cmpV_cases (k1 n1 : Int) (t1 : ByteArray) (k2 n2 : Int) (t2 : ByteArray) :
    cmpV k1 n1 t1 k2 n2 t2 = if k1 ≠ k2 then (if k1 < k2 then -1 else 1) else if n1 ≠ n2 then (if n1 < n2 then -1 else 1) else Lib.compareBytes t1.data.toList t2.data.toList := by
  unfold cmpV orI cmpI
  (repeat' split) <;> first | rfl | omega

set_option maxHeartbeats 4000000 in
theorem refCompare_any (k1 n1 : Int) (t1 : ByteArray) (k2 n2 : Int) (t2 : ByteArray) (w : World) (ht : t1.size ≤ 281474976710656) :
    Calls Tryd.prog 34 #[.agg #[.int .i64 k1, .int .i64 n1, .string t1], .agg #[.int .i64 k2, .int .i64 n2, .string t2]] w fun e w' =>
      e = .returned (.int .i64 (cmpV k1 n1 t1 k2 n2 t2)) ∧ Below w.heap.size w w' := by
  have hc := cmpV_cases k1 n1 t1 k2 n2 t2
  have HB0 := Lib.hid (show Below w.heap.size w ((w.alloc (.cells #[.int .i64 k1, .int .i64 n1, .string t1] 35)).alloc (.cells #[.int .i64 k2, .int .i64 n2, .string t2] 35)) from balloc (balloc (Below.refl _ _) _) _)
  by_cases hk : k1 = k2
  · rw [if_neg (by simpa using hk)] at hc
    have q1 : (k1 != k2) = false := by simpa using hk
    by_cases hn : n1 = n2
    · rw [if_neg (by simpa using hn)] at hc
      have q2 : (n1 != n2) = false := by simpa using hn
      have HC := Lib.hid hc
      clear hc hk hn
      go_enter Tryd.func34, Tryd.ntmps34
      go_wp2_with fail
      refine (texts_any t1 t2 _ ht).mono ?_
      rintro e w1 ⟨rfl, hb1⟩
      have HB1 := Lib.hid (HB0.out.trans (hb1.mono (by simp; omega)))
      clear hb1
      go_wp2_with fail
      go_ret
      exact ⟨by rw [HC.out]; rfl, HB1.out⟩
    · rw [if_pos (by simpa using hn)] at hc
      have q2 : (n1 != n2) = true := by simpa using hn
      by_cases h : n1 < n2
      · rw [if_pos h] at hc
        have HC := Lib.hid hc
        clear hc hk hn
        go_enter Tryd.func34, Tryd.ntmps34
        go_wp2_with fail
        go_ret
        exact ⟨by rw [HC.out]; rfl, HB0.out⟩
      · rw [if_neg h] at hc
        have HC := Lib.hid hc
        clear hc hk hn
        go_enter Tryd.func34, Tryd.ntmps34
        go_wp2_with fail
        go_ret
        exact ⟨by rw [HC.out]; rfl, HB0.out⟩
  · rw [if_pos (by simpa using hk)] at hc
    have q1 : (k1 != k2) = true := by simpa using hk
    by_cases h : k1 < k2
    · rw [if_pos h] at hc
      have HC := Lib.hid hc
      clear hc hk
      go_enter Tryd.func34, Tryd.ntmps34
      go_wp2_with fail
      go_ret
      exact ⟨by rw [HC.out]; rfl, HB0.out⟩
    · rw [if_neg h] at hc
      have HC := Lib.hid hc
      clear hc hk
      go_enter Tryd.func34, Tryd.ntmps34
      go_wp2_with fail
      go_ret
      exact ⟨by rw [HC.out]; rfl, HB0.out⟩

set_option maxHeartbeats 4000000 in
theorem compares_law (k1 n1 : Int) (t1 : ByteArray) (k2 n2 : Int) (t2 : ByteArray) (w : World) (h0 : -9223372036854775808 ≤ n1) (h1 : n1 ≤ 9223372036854775807) (ht : t1.size ≤ 140737488351232)
    (h2 : -9223372036854775808 ≤ n2) (h3 : n2 ≤ 9223372036854775807) (ht2 : t2.size ≤ 140737488351232) (hg : Glob w) :
    Calls Tryd.prog 17 #[.agg #[.int .i64 k1, .int .i64 n1, .string t1], .agg #[.int .i64 k2, .int .i64 n2, .string t2]] w fun e w' => e = .returned (.bool true) ∧ Below w.heap.size w w' := by
  have HG := Lib.hid hg
  have hB0 : Below w.heap.size w ((w.alloc (.cells #[.int .i64 k1, .int .i64 n1, .string t1] 35)).alloc (.cells #[.int .i64 k2, .int .i64 n2, .string t2] 35)) := balloc (balloc (Below.refl _ _) _) _
  clear hg
  go_enter Tryd.func17, Tryd.ntmps17
  go_wp2_with fail
  go_region_held3 (fun w' => (w'.cell? ⟨w.heap.size, 0, none⟩ = some (.int .i64 k1) ∧ w'.cell? ⟨w.heap.size, 1, none⟩ = some (.int .i64 n1) ∧ w'.cell? ⟨w.heap.size, 2, none⟩ = some (.string t1)) ∧
     (w'.cell? ⟨w.heap.size + 1, 0, none⟩ = some (.int .i64 k2) ∧ w'.cell? ⟨w.heap.size + 1, 1, none⟩ = some (.int .i64 n2) ∧ w'.cell? ⟨w.heap.size + 1, 2, none⟩ = some (.string t2)) ∧ Below w.heap.size w w')
    (first | (go_split_ands; refine ⟨⟨?_, ?_, ?_⟩, ⟨?_, ?_, ?_⟩, ?_⟩ <;> first | exact bdrew (by assumption) | exact bt2 (by assumption) hb | exact bcell2 hb (by assumption) | go_keep))
    (first
      | (go_at_call 24; go_split_ands; refine (awake01 _ (HG.out.below (by assumption))).mono ?_; rintro e w' ⟨rfl, hb⟩)
      | (go_at_call 33; refine (compare_any _ _ _ _ _ _ _).mono ?_; rintro e w' ⟨rfl, hb⟩)
      | (go_at_call 34; refine (refCompare_any _ _ _ _ _ _ _ (by omega)).mono ?_; rintro e w' ⟨rfl, hb⟩))
  all_goals go_split_ands
  all_goals go_wp2_with fail
  all_goals (go_ret; exact ⟨by simp, by assumption⟩)
end Go.Proofs.YthfibaajmbhdkaaDoor
