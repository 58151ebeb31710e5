/- osierref01.unit, walked. -/
import Derived.Test.YthfibaajmbhdkaaDoorVun
namespace Go.Proofs.YthfibaajmbhdkaaDoor
open Go.RowKit
set_option linter.unusedVariables false

theorem beq_lists {a b : ByteArray} {la lb : List UInt8} (ha : a.data.toList = la) (hb : b.data.toList = lb) : (a.toList == b.toList) = decide (la = lb) := by
  rw [ByteArray.toList_eq, ByteArray.toList_eq, ha, hb]
  by_cases h : la = lb
  · subst h; simp
  · rw [decide_eq_false h]; simpa using h

theorem low_x {b : UInt8} (h : low b = 120) : b = 120 := by
  unfold low at h
  split at h
  · rename_i hc
    have := congrArg UInt8.toNat h
    rw [UInt8.toNat_add] at this
    have e1 : (32 : UInt8).toNat = 32 := rfl
    have e2 : (120 : UInt8).toNat = 120 := rfl
    omega
  · exact h

set_option maxHeartbeats 16000000 in
set_option maxRecDepth 100000 in
theorem unit_esc (s : ByteArray) (i : Nat) (w : World) (hi : i < s.size) (hs : s.size ≤ 281474976710656) (h92 : bt s.data.toList i = 92) :
    Calls Tryd.prog 66 #[.string s, .int .i64 i] w fun e w' => e = .returned (.tuple #[.int .i64 (scanB (s.data.toList.drop i)).2, .int .u8 (scanB (s.data.toList.drop i)).1]) ∧ Below w.heap.size w w' := by
  have hsl : s.data.toList.length = s.size := rfl
  have hbt := bt_of s i hi
  have h0 : bt (s.data.toList.drop i) 0 = 92 := by rw [bt_drop]; exact h92
  have hdl : (s.data.toList.drop i).length = s.size - i := by rw [List.length_drop, hsl]
  rw [h92] at hbt
  have hx2 : (s.extract i (i + 2)).data.toList = (s.data.toList.drop i).take 2 := by rw [Lib.extract_data]; congr 1; omega
  have hx4 : (s.extract i (i + 4)).data.toList = (s.data.toList.drop i).take 4 := by rw [Lib.extract_data]; congr 1; omega
  generalize hLd : s.data.toList.drop i = L at *
  have HLd := Lib.hid hLd
  have H0 := Lib.hid h0
  have HDL := Lib.hid hdl
  have HX2 := Lib.hid hx2
  have HX4 := Lib.hid hx4
  have HBD := Lib.hid (scanB_bd L (by intro h; rw [h] at hdl; simp at hdl; omega))
  clear hsl h0 hdl h92 hx2 hx4 hLd
  go_enter Tryd.func66, Tryd.ntmps66
  go_wp2_with fail
  go_loopw [6] (fun ix wr => ∃ k : Nat, k ≤ 256 ∧ ix = .int .i64 k ∧ Below w.heap.size w wr ∧ Hid (∀ c : Int, 0 ≤ c → c < k → ¬ unitP L c ∧ ¬ unitQ L c)) (fun ix _ => 256 - (intOf ix).toNat)
  case atStart => exact ⟨0, by omega, rfl, Below.refl _ _, Lib.hid fun c h0 h1 => absurd h1 (by omega)⟩
  case round =>
    obtain ⟨k, hk, rfl, hbel, HN⟩ := hrel
    have HB := Lib.hid hbel
    have hz := hbel.size
    clear hbel
    by_cases hlt : k < 256
    · have hby := fun W => refByte_any (k : Int) W (by omega) (by omega)
      have hsb : (ByteArray.mk (showB (k : Int)).toArray).data.toList = showB k := by simp
      have hsz : (ByteArray.mk (showB (k : Int)).toArray).size = (showB (k : Int)).length := by simp [ByteArray.size]
      generalize (ByteArray.mk (showB (k : Int)).toArray) = sb at *
      have g1 := hexd_at ((k : Int) / 16) (by omega) (by omega)
      have g2 := hexd_at ((k : Int) % 16) (by omega) (by omega)
      have hq2 := beq_lists HX2.out hsb
      have HBY := Lib.hid hby
      by_cases hP : unitP L k
      · have hres := unit_P H0.out (by omega) (by omega) hP
        have HRES := Lib.hid hres
        obtain ⟨p1, p2, p3⟩ := hP
        have q1 : ((sb.size : Int) == 2) = true := by rw [hsz, p1]; rfl
        have q2 : (i : Int) + 2 ≤ s.size := by have := HDL.out; omega
        have q3 : i + 2 ≤ s.size := by omega
        rw [decide_eq_true p3] at hq2
        clear hby hsb hsz hres p1 p2 p3 g1 g2
        go_wp2_with fail
        refine (HBY.out _).mono ?_
        rintro e w1 ⟨rfl, hb1⟩
        have HB1 := Lib.hid (HB.out.trans (hb1.mono hz))
        clear hb1
        go_wp2_with fail
        go_ret2
        exact ⟨by rw [HRES.out]; rfl, HB1.out⟩
      · have hPF : ((sb.size : Int) == 2) = false ∨ (((sb.size : Int) == 2) = true ∧ (s.size : Int) < i + 2 ∧ s.size < i + 2) ∨ (((sb.size : Int) == 2) = true ∧ ((i : Int) + 2 ≤ s.size ∧ i + 2 ≤ s.size) ∧ ((s.extract i (i + 2)).toList == sb.toList) = false) := by
          by_cases p1 : sb.size = 2
          · have q1 : ((sb.size : Int) == 2) = true := by rw [p1]; rfl
            by_cases p2 : i + 2 ≤ s.size
            · refine .inr (.inr ⟨q1, ⟨by omega, p2⟩, ?_⟩)
              rw [hq2]
              exact decide_eq_false fun p3 => hP ⟨by omega, by have := HDL.out; omega, p3⟩
            · exact .inr (.inl ⟨q1, by omega, by omega⟩)
          · exact .inl (beq_eq_false_iff_ne.2 (by omega))
        have HP := Lib.hid hP
        have hsm := fun W (h4 : i + 4 ≤ s.size) => small_any (s.extract i (i + 4)) W (by have := HX4.out; rw [Lib.size_eq, this, List.length_take, HDL.out]; omega)
        rw [HX4.out] at hsm
        have hsd : (ByteArray.mk ((L.take 4).map low).toArray).data.toList = (L.take 4).map low := by simp
        generalize (ByteArray.mk ((L.take 4).map low).toArray) = sm at *
        have hqx := beq_lists (b := ByteArray.mk #[92, 120] ++ ByteArray.mk #[hexd ((k : Int) / 16), hexd ((k : Int) % 16)]) (lb := [92, 120, hexd ((k : Int) / 16), hexd ((k : Int) % 16)]) hsd (by simp)
        have hQF : (unitQ L k ∧ ((i : Int) + 4 ≤ s.size ∧ i + 4 ≤ s.size) ∧ (sm.toList == (ByteArray.mk #[92, 120] ++ ByteArray.mk #[hexd ((k : Int) / 16), hexd ((k : Int) % 16)]).toList) = true ∧ bt s.data.toList (i + 1) = 120) ∨
            (¬ unitQ L k ∧ ((s.size : Int) < i + 4 ∧ s.size < i + 4)) ∨ (¬ unitQ L k ∧ ((i : Int) + 4 ≤ s.size ∧ i + 4 ≤ s.size) ∧ (sm.toList == (ByteArray.mk #[92, 120] ++ ByteArray.mk #[hexd ((k : Int) / 16), hexd ((k : Int) % 16)]).toList) = false) := by
          by_cases hQ : unitQ L k
          · refine .inl ⟨hQ, ?_⟩
            obtain ⟨p1, p2, p3⟩ := hQ
            have := HDL.out
            refine ⟨⟨by omega, by omega⟩, by rw [hqx]; exact decide_eq_true p2, ?_⟩
            rw [← HLd.out, bt_drop] at p3
            exact p3
          · refine .inr ?_
            by_cases p1 : i + 4 ≤ s.size
            · refine .inr ⟨hQ, ⟨by omega, p1⟩, ?_⟩
              rw [hqx]
              refine decide_eq_false fun p2 => hQ ⟨by have := HDL.out; omega, p2, ?_⟩
              match L, p2 with
              | [], p2 => simp at p2
              | [_], p2 => simp at p2
              | a :: b :: r, p2 =>
                rw [bt1]
                simp only [List.take_succ_cons, List.map_cons, List.cons.injEq] at p2
                rw [low_x p2.2.1]; rfl
            · exact .inl ⟨hQ, by omega, by omega⟩
        have HSM := Lib.hid hsm
        clear hby hsb hsz hq2 hP hsm hsd hqx
        rcases hPF with q1 | ⟨q1, q2, q2'⟩ | ⟨q1, ⟨q2, q2'⟩, q3⟩
        all_goals
          go_wp2_with fail
          refine (HBY.out _).mono ?_
          rintro e w1 ⟨rfl, hb1⟩
          have hB1 := HB.out.trans (hb1.mono hz)
          have hz1 := hB1.size
          have HB1 := Lib.hid hB1
          clear hb1 hB1
          have hc0 : ((w1.alloc (.cells #[.int .u8 ((hexd ((k : Int) / 16)).toNat : Int), .int .u8 ((hexd ((k : Int) % 16)).toNat : Int)] 5)).drew).cell? ⟨w1.heap.size, 0, none⟩ = some (.int .u8 ((hexd ((k : Int) / 16)).toNat : Int)) := by simp
          have hc1 : ((w1.alloc (.cells #[.int .u8 ((hexd ((k : Int) / 16)).toNat : Int), .int .u8 ((hexd ((k : Int) % 16)).toNat : Int)] 5)).drew).cell? ⟨w1.heap.size, 1, none⟩ = some (.int .u8 ((hexd ((k : Int) % 16)).toNat : Int)) := by simp
          have hcv := conv2 (cap := 2) hc0 hc1
          have HB2 := Lib.hid (show Below w.heap.size w ((w1.alloc (.cells #[.int .u8 ((hexd ((k : Int) / 16)).toNat : Int), .int .u8 ((hexd ((k : Int) % 16)).toNat : Int)] 5)).drew) from bdrew (balloc HB1.out _))
          clear hc0 hc1
          go_wp2_with fail
          go_region
          rcases hQF with ⟨hQ, ⟨r1, r1'⟩, r2, r3⟩ | ⟨hQ, r1, r1'⟩ | ⟨hQ, ⟨r1, r1'⟩, r2⟩
          · have HRES := Lib.hid (unit_Q H0.out (by omega) (by omega) hQ)
            have hb1 := bt_of s (i + 1) (by omega)
            rw [r3] at hb1
            clear hQ r3
            go_wp2_with fail
            refine (HSM.out _ r1').mono ?_
            rintro e w3 ⟨rfl, hb3⟩
            have HB3 := Lib.hid (HB2.out.trans (hb3.mono (by simp; omega)))
            clear hb3
            go_wp2_with fail
            go_ret2
            exact ⟨by rw [HRES.out]; rfl, HB3.out⟩
          · have HN2 : Hid (∀ c : Int, 0 ≤ c → c < ((k + 1 : Nat) : Int) → ¬ unitP L c ∧ ¬ unitQ L c) := Lib.hid (by
              intro c h0 h1
              by_cases e : c = k
              · subst e; exact ⟨HP.out, hQ⟩
              · exact HN.out c h0 (by omega))
            clear hQ
            go_wp2_with fail
            go_round
            case rel => exact ⟨k + 1, by omega, by go_num, HB2.out, HN2⟩
            case measure => simp [intOf]; omega
          · have HN2 : Hid (∀ c : Int, 0 ≤ c → c < ((k + 1 : Nat) : Int) → ¬ unitP L c ∧ ¬ unitQ L c) := Lib.hid (by
              intro c h0 h1
              by_cases e : c = k
              · subst e; exact ⟨HP.out, hQ⟩
              · exact HN.out c h0 (by omega))
            clear hQ
            go_wp2_with fail
            refine (HSM.out _ r1').mono ?_
            rintro e w3 ⟨rfl, hb3⟩
            have HB3 := Lib.hid (HB2.out.trans (hb3.mono (by simp; omega)))
            clear hb3
            go_wp2_with fail
            go_round
            case rel => exact ⟨k + 1, by omega, by go_num, HB3.out, HN2⟩
            case measure => simp [intOf]; omega
    · have hk256 : k = 256 := by omega
      subst hk256
      have HRES := Lib.hid (unit_none H0.out fun c h0 h1 => HN.out c h0 (by omega))
      go_wp2_with fail
      go_ret2
      exact ⟨by rw [HRES.out]; rfl, HB.out⟩

set_option maxHeartbeats 4000000 in
set_option maxRecDepth 100000 in
theorem unit_any (s : ByteArray) (i : Nat) (w : World) (hi : i < s.size) (hs : s.size ≤ 281474976710656) (hq : bt s.data.toList i ≠ 34) :
    Calls Tryd.prog 66 #[.string s, .int .i64 i] w fun e w' => e = .returned (.tuple #[.int .i64 (scanB (s.data.toList.drop i)).2, .int .u8 (scanB (s.data.toList.drop i)).1]) ∧ Below w.heap.size w w' := by
  by_cases h92 : bt s.data.toList i = 92
  · exact unit_esc s i w hi hs h92
  · have hbt := bt_of s i hi
    have hsc : scanB (s.data.toList.drop i) = if bt s.data.toList i < 32 then (0, 0) else if 126 < bt s.data.toList i then (0, 0) else (bt s.data.toList i, 1) := by
      unfold scanB
      rw [bt_drop, Nat.add_zero, if_pos h92]
    generalize bt s.data.toList i = c at *
    have q0 : (c != 92) = true := by simpa using h92
    have q1 : (c != 34) = true := by simpa using hq
    by_cases h1 : c < 32
    · rw [if_pos h1] at hsc
      have HSC := Lib.hid hsc
      clear hsc h92 hq
      go_enter Tryd.func66, Tryd.ntmps66
      go_wp2_with fail
      go_ret2
      exact ⟨by rw [HSC.out]; rfl, Below.refl _ _⟩
    · rw [if_neg h1] at hsc
      have h1' : 32 ≤ c := by omega
      by_cases h2 : 126 < c
      · rw [if_pos h2] at hsc
        have HSC := Lib.hid hsc
        clear hsc h92 hq h1
        go_enter Tryd.func66, Tryd.ntmps66
        go_wp2_with fail
        go_ret2
        exact ⟨by rw [HSC.out]; rfl, Below.refl _ _⟩
      · rw [if_neg h2] at hsc
        have h2' : c ≤ 126 := by omega
        have HSC := Lib.hid hsc
        clear hsc h92 hq h1 h2
        go_enter Tryd.func66, Tryd.ntmps66
        go_wp2_with fail
        go_quiet (fail)
        go_wp2_with fail
        go_ret2
        exact ⟨by rw [HSC.out]; rfl, bdrewN (Below.refl _ _) _⟩
end Go.Proofs.YthfibaajmbhdkaaDoor
