/- osierref01.Digits, Number, walked. -/
import Derived.Test.YthfibaajmbhdkaaDoorVsh
import Derived.Test.YthfibaajmbhdkaaDoorValb
import Derived.Lib.ItoaLen
namespace Go.Proofs.YthfibaajmbhdkaaDoor
open Go.RowKit
set_option linter.unusedVariables false

theorem dec_step {n : Nat} (h : 10 ≤ n) : Lib.decDigits n = Lib.decDigits (n / 10) ++ [UInt8.ofNat (48 + n % 10)] := by
  conv => lhs; rw [Lib.decDigits, dif_neg (by omega)]
theorem dec_last {n : Nat} (h : n < 10) : Lib.decDigits n = [UInt8.ofNat (48 + n % 10)] := by
  rw [Lib.decDigits, dif_pos h, Nat.mod_eq_of_lt h]

set_option maxHeartbeats 4000000 in
set_option maxRecDepth 100000 in
theorem digits_any (u : Nat) (w : World) (hu : u ≤ 18446744073709551615) :
    Calls Tryd.prog 61 #[.int .u64 u] w fun e w' => e = .returned (.string ⟨(Lib.decDigits u).toArray⟩) ∧ Below w.heap.size w w' := by
  go_enter Tryd.func61, Tryd.ntmps61
  go_wp2_with fail
  go_loopw [0, 3] (fun m s wr => ∃ (n : Nat) (l : List UInt8), m = .int .u64 n ∧ s = .string ⟨l.toArray⟩ ∧ n ≤ 18446744073709551615 ∧ Below w.heap.size w wr ∧ Lib.decDigits u = Lib.decDigits n ++ l) (fun m _ _ => (intOf m).toNat)
  case atStart => exact ⟨u, [], rfl, rfl, hu, Below.refl _ _, by simp⟩
  case round =>
    obtain ⟨n, l, rfl, rfl, hn, hbel, hd⟩ := hrel
    have hc : (wr.alloc (.cells #[.int .u8 (48 + (n : Int) % 10)] 5)).cell? ⟨wr.heap.size, 0, none⟩ = some (.int .u8 (48 + (n : Int) % 10)) := by simp
    have hcv := conv1 (cap := 1) (c := 48 + (n : Int) % 10) (by omega) (by omega) hc
    have hsz := hbel.size
    have hll : 1 + l.length ≤ 9223372036854775807 := by
      have h1 := congrArg List.length hd
      rw [List.length_append, Lib.decDigits_length] at h1
      have h2 := Lib.nDigits_le20 u (by omega)
      omega
    have hcc : (ByteArray.mk #[48 + UInt8.ofNat (n % 10)] ++ ByteArray.mk l.toArray) = ⟨(UInt8.ofNat (48 + n % 10) :: l).toArray⟩ := by
      apply ByteArray.ext
      simp
    have HCC := Lib.hid hcc
    clear hcc
    have HB := Lib.hid (show Below w.heap.size w (wr.alloc (.cells #[.int .u8 (48 + (n : Int) % 10)] 5)) from balloc hbel _)
    have HD := Lib.hid hd
    clear hbel hd hc
    by_cases h10 : n < 10
    · have hz : ((n : Int) / 10 == 0) = true := by simp; omega
      have HL := Lib.hid (dec_last h10)
      go_wp2_with fail
      go_ret
      have hE := HD.out
      rw [HL.out] at hE
      exact ⟨by rw [HCC.out, hE]; rfl, HB.out⟩
    · have hz : ((n : Int) / 10 == 0) = false := beq_eq_false_iff_ne.2 (by omega)
      have HL := Lib.hid (dec_step (show 10 ≤ n by omega))
      go_wp2_with fail
      go_round
      case rel => exact ⟨n / 10, UInt8.ofNat (48 + n % 10) :: l, by go_num, by rw [HCC.out], by omega, HB.out, by rw [HD.out, HL.out]; simp⟩
      case measure => simp [intOf]; omega

set_option maxHeartbeats 4000000 in
set_option maxRecDepth 100000 in
theorem number_any (n : Int) (w : World) (h0 : -9223372036854775808 ≤ n) (h1 : n ≤ 9223372036854775807) :
    Calls Tryd.prog 44 #[.int .i64 n] w fun e w' => e = .returned (.string ⟨(Lib.itoa n).toArray⟩) ∧ Below w.heap.size w w' := by
  by_cases hn : n < 0
  · obtain ⟨u, rfl⟩ : ∃ u : Nat, n = -(u : Int) := ⟨n.natAbs, by omega⟩
    have HE : Hid (Lib.itoa (-(u : Int)) = 45 :: Lib.decDigits u) := Lib.hid (Lib.itoa_neg u (by omega))
    have hd := digits_any u w (by omega)
    have HD := Lib.hid hd
    clear hd
    have hl := Lib.decDigits_length u
    have hl2 := Lib.nDigits_le20 u (by omega)
    have hll : 1 + (Lib.decDigits u).length ≤ 9223372036854775807 := by omega
    have h2 : IntKind.u64.wrap (-IntKind.u64.wrap (-(u : Int))) = u := by
      unfold IntKind.wrap
      simp [IntKind.signed, IntKind.bits]
      omega
    go_enter Tryd.func44, Tryd.ntmps44
    go_wp2_with fail
    refine HD.out.mono ?_
    rintro e w1 ⟨rfl, hb1⟩
    have HB1 := Lib.hid hb1
    clear hb1
    go_wp2_with fail
    go_ret
    refine ⟨?_, HB1.out⟩
    rw [HE.out]
    have : (ByteArray.mk #[45] ++ ByteArray.mk (Lib.decDigits u).toArray) = ⟨(45 :: Lib.decDigits u).toArray⟩ := by
      apply ByteArray.ext; simp
    rw [← this]; rfl
  · obtain ⟨u, rfl⟩ : ∃ u : Nat, n = u := ⟨n.toNat, by omega⟩
    have HE : Hid (Lib.itoa (u : Int) = Lib.decDigits u) := Lib.hid (Lib.itoa_nonneg u)
    have hd := digits_any u w (by omega)
    have HD := Lib.hid hd
    clear hd
    go_enter Tryd.func44, Tryd.ntmps44
    go_wp2_with fail
    refine HD.out.mono ?_
    rintro e w1 ⟨rfl, hb1⟩
    have HB1 := Lib.hid hb1
    clear hb1
    go_wp2_with fail
    go_ret
    exact ⟨by rw [HE.out]; rfl, HB1.out⟩

theorem ref_show_bad (k n : Int) (t : ByteArray) (w : World) (h : validB k n t.data.toList = false) :
    Calls Tryd.prog 28 #[.agg #[.int .i64 k, .int .i64 n, .string t]] w fun e w' => e = .returned (.string ⟨(showR k n t.data.toList).toArray⟩) ∧ Below w.heap.size w w' := by
  have HB0 := Lib.hid (show Below w.heap.size w (w.alloc (.cells #[.int .i64 k, .int .i64 n, .string t] 35)) from balloc (Below.refl _ _) _)
  have hr := fun W => refValid_any k n t W
  rw [h] at hr
  have HR := Lib.hid hr
  have HE : Hid (showR k n t.data.toList = []) := Lib.hid (by unfold showR; rw [h]; rfl)
  clear hr h
  go_enter Tryd.func28, Tryd.ntmps28
  go_wp2_with fail
  refine (HR.out _).mono ?_
  rintro e w1 ⟨rfl, hb1⟩
  have HB1 := Lib.hid (HB0.out.trans (hb1.mono (by simp)))
  clear hb1
  go_wp2_with fail
  go_ret
  exact ⟨by rw [HE.out]; rfl, HB1.out⟩

set_option maxHeartbeats 4000000 in
set_option maxRecDepth 100000 in
theorem ref_show_good (k n : Int) (t : ByteArray) (w : World) (h : validB k n t.data.toList = true) (h0 : -9223372036854775808 ≤ n) (h1 : n ≤ 9223372036854775807) :
    Calls Tryd.prog 28 #[.agg #[.int .i64 k, .int .i64 n, .string t]] w fun e w' => e = .returned (.string ⟨(showR k n t.data.toList).toArray⟩) ∧ Below w.heap.size w w' := by
  have HB0 := Lib.hid (show Below w.heap.size w (w.alloc (.cells #[.int .i64 k, .int .i64 n, .string t] 35)) from balloc (Below.refl _ _) _)
  have hr := fun W => refValid_any k n t W
  rw [h] at hr
  have HR := Lib.hid hr
  have hE : showR k n t.data.toList = if k = 1 then Lib.itoa n else 34 :: (showT t.data.toList ++ [34]) := by unfold showR; rw [h]; rfl
  have hv := h
  simp only [validB, decide_eq_true_eq] at hv
  clear hr
  by_cases hk : k = 1
  · rw [if_pos hk] at hE
    have HE := Lib.hid hE
    have q1 : (k == 1) = true := by simpa using hk
    clear hE h hv hk
    go_enter Tryd.func28, Tryd.ntmps28
    go_wp2_with fail
    refine (HR.out _).mono ?_
    rintro e w1 ⟨rfl, hb1⟩
    have a0 := hb1.cell (p := ⟨w.heap.size, 0, none⟩) (by simp)
    have a1 := hb1.cell (p := ⟨w.heap.size, 1, none⟩) (by simp)
    simp [go_sem] at a0 a1
    have hz := hb1.size
    simp at hz
    have HB1 := Lib.hid (HB0.out.trans (hb1.mono (by simp)))
    clear hb1
    go_wp2_with fail
    refine (number_any n _ h0 h1).mono ?_
    rintro e w2 ⟨rfl, hb2⟩
    have HB2 := Lib.hid (HB1.out.trans (hb2.mono (by omega)))
    clear hb2
    go_wp2_with fail
    go_ret
    exact ⟨by rw [HE.out]; rfl, HB2.out⟩
  · rw [if_neg hk] at hE
    have HE := Lib.hid hE
    have q1 : (k == 1) = false := by simpa using hk
    have hs64 : t.size ≤ 64 := by
      have hl : t.data.toList.length = t.size := rfl
      omega
    clear hE h hv hk
    go_enter Tryd.func28, Tryd.ntmps28
    go_wp2_with fail
    refine (HR.out _).mono ?_
    rintro e w1 ⟨rfl, hb1⟩
    have a0 := hb1.cell (p := ⟨w.heap.size, 0, none⟩) (by simp)
    have a2 := hb1.cell (p := ⟨w.heap.size, 2, none⟩) (by simp)
    simp [go_sem] at a0 a2
    have hz := hb1.size
    simp at hz
    have HB1 := Lib.hid (HB0.out.trans (hb1.mono (by simp)))
    clear hb1
    go_wp2_with fail
    go_loopw [3, 4] (fun s ix wr => ∃ (k : Nat) (l : List UInt8), k ≤ t.size ∧ ix = .int .i64 k ∧ s = .string ⟨l.toArray⟩ ∧ l = 34 :: showT (t.data.toList.take k) ∧ Below (w.heap.size + 1) w1 wr) (fun _ ix _ => t.size - (intOf ix).toNat)
    case atStart => exact ⟨0, [34], Nat.zero_le _, rfl, rfl, by simp [showT], Below.refl _ _⟩
    case round =>
      obtain ⟨k, l, hk, rfl, rfl, hl, hbel⟩ := hrel
      have hc' := (hbel.cell (p := ⟨w.heap.size, 2, none⟩) (by simp)).trans a2
      have hzr := hbel.size
      have hsl := showT_len (t.data.toList.take k)
      have hsl2 : (t.data.toList.take k).length ≤ k := by rw [List.length_take]; exact Nat.min_le_left _ _
      have hll : l.length ≤ 257 := by rw [hl, List.length_cons]; omega
      by_cases hlt : k < t.size
      · have hT := showT_take t k hlt
        have hbd : ((t[k]'hlt).toNat : Int) ≤ 255 := by have := (t[k]'hlt).toNat_lt; omega
        have hB := fun W => refByte_any ((t[k]'hlt).toNat : Int) W (by omega) hbd
        have hbl : (showB ((t[k]'hlt).toNat : Int)).length ≤ 4 := by unfold showB; (repeat' split) <;> simp
        generalize hg : showB ((t[k]'hlt).toNat : Int) = sb at *
        have hcc : (ByteArray.mk l.toArray ++ ByteArray.mk sb.toArray) = ⟨(l ++ sb).toArray⟩ := by apply ByteArray.ext; simp
        have hll2 : l.length + sb.length ≤ 9223372036854775807 := by omega
        have HCC := Lib.hid hcc
        have HT : Hid (l ++ sb = 34 :: showT (t.data.toList.take (k + 1))) := Lib.hid (by rw [hl, hT]; try rfl)
        have HBB := Lib.hid hB
        clear hT hbd hB hbl hg hcc hl hsl hsl2
        go_wp2_with fail
        refine (HBB.out _).mono ?_
        rintro e w3 ⟨rfl, hb3⟩
        have HB3 := Lib.hid (hbel.trans (hb3.mono (by omega)))
        clear hb3
        go_wp2_with fail
        go_round
        case rel => exact ⟨k + 1, l ++ sb, by omega, by go_num, by rw [HCC.out], HT.out, HB3.out⟩
        case measure => simp [intOf]; omega
      · have hke : k = t.size := by omega
        subst hke
        have htk : t.data.toList.take t.size = t.data.toList := List.take_of_length_le (Nat.le_refl _)
        rw [htk] at hl
        have hcc : (ByteArray.mk l.toArray ++ ByteArray.mk #[34]) = ⟨(34 :: (showT t.data.toList ++ [34])).toArray⟩ := by apply ByteArray.ext; rw [hl]; simp
        have HCC := Lib.hid hcc
        have hll2 : l.length + 1 ≤ 9223372036854775807 := by omega
        have HB3 := Lib.hid hbel
        clear hcc hl hsl hsl2 htk hbel
        go_wp2_with fail
        go_ret
        exact ⟨by rw [HE.out, ← HCC.out]; rfl, HB1.out.trans (HB3.out.mono (by omega))⟩

theorem refShow_any (k n : Int) (t : ByteArray) (w : World) (h0 : -9223372036854775808 ≤ n) (h1 : n ≤ 9223372036854775807) :
    Calls Tryd.prog 28 #[.agg #[.int .i64 k, .int .i64 n, .string t]] w fun e w' => e = .returned (.string ⟨(showR k n t.data.toList).toArray⟩) ∧ Below w.heap.size w w' := by
  cases h : validB k n t.data.toList with
  | false => exact ref_show_bad k n t w h
  | true => exact ref_show_good k n t w h h0 h1

set_option maxHeartbeats 2000000 in
theorem shows_law (k n : Int) (t : ByteArray) (w : World) (h0 : -9223372036854775808 ≤ n) (h1 : n ≤ 9223372036854775807) (ht : t.size ≤ 140737488351232) (hg : Glob w) :
    Calls Tryd.prog 10 #[.agg #[.int .i64 k, .int .i64 n, .string t]] w fun e w' => e = .returned (.bool true) ∧ Below w.heap.size w w' := by
  have HG := Lib.hid hg
  have hB0 : Below w.heap.size w (w.alloc (.cells #[.int .i64 k, .int .i64 n, .string t] 35)) := balloc (Below.refl _ _) _
  clear hg
  obtain ⟨S, HS⟩ : ∃ S : ByteArray, Hid (S = ⟨(showR k n t.data.toList).toArray⟩) := ⟨_, Lib.hid rfl⟩
  have H1 : Hid (∀ W, Glob W → Calls Tryd.prog 27 #[.agg #[.int .i64 k, .int .i64 n, .string t]] W fun e w' => e = .returned (.string S) ∧ Below W.heap.size W w') := Lib.hid fun W hG => by rw [HS.out]; exact show_any k n t W h0 h1 hG
  have H2 : Hid (∀ W, Calls Tryd.prog 28 #[.agg #[.int .i64 k, .int .i64 n, .string t]] W fun e w' => e = .returned (.string S) ∧ Below W.heap.size W w') := Lib.hid fun W => by rw [HS.out]; exact refShow_any k n t W h0 h1
  go_enter Tryd.func10, Tryd.ntmps10
  go_wp2_with fail
  go_region_held3 (fun w' => w'.cell? ⟨w.heap.size, 0, none⟩ = some (.int .i64 k) ∧ w'.cell? ⟨w.heap.size, 1, none⟩ = some (.int .i64 n) ∧ w'.cell? ⟨w.heap.size, 2, none⟩ = some (.string t) ∧ Below w.heap.size w w')
    (first | (go_split_ands; refine ⟨?_, ?_, ?_, ?_⟩ <;> first | exact bdrew (by assumption) | exact bt2 (by assumption) hb | exact bcell2 hb (by assumption) | go_keep))
    (first
      | (go_at_call 24; go_split_ands; refine (awake01 _ (HG.out.below (by assumption))).mono ?_; rintro e w' ⟨rfl, hb⟩)
      | (go_at_call 27; go_split_ands; refine (H1.out _ (HG.out.below (by assumption))).mono ?_; rintro e w' ⟨rfl, hb⟩)
      | (go_at_call 28; refine (H2.out _).mono ?_; rintro e w' ⟨rfl, hb⟩))
  all_goals go_split_ands
  all_goals go_wp2_with fail
  all_goals (go_ret; exact ⟨by simp, by assumption⟩)
end Go.Proofs.YthfibaajmbhdkaaDoor
