/- Plain laws of value literals: reading what was written, writing what was read. No program in sight. -/
import Derived.Test.YthfibaajmbhdkaaDoorVal8
import Derived.Test.YthfibaajmbhdkaaDoorVal6
import Derived.Lib.ParseIntBTie
import Derived.Lib.ItoaNum
namespace Go.Proofs.YthfibaajmbhdkaaDoor
open Go.RowKit
set_option linter.unusedVariables false

/-! numbers -/

theorem nDigits_le {k : Nat} : ∀ {u : Nat}, u < 10 ^ (k + 1) → Lib.nDigits u ≤ k + 1 := by
  induction k with
  | zero => intro u h; rw [Lib.nDigits_small (by simpa using h)]; exact Nat.le_refl _
  | succ k ih =>
    intro u h
    by_cases hu : u < 10
    · rw [Lib.nDigits_small hu]; omega
    · rw [Lib.nDigits_big hu]
      have := ih (u := u / 10) (by rw [Nat.pow_succ] at h; omega)
      omega

theorem parse_snoc (M : Nat) (c : UInt8) : ∀ (l : List UInt8) (acc v : Nat), Lib.parseUintM M acc l = .ok v → Lib.parseUintM M acc (l ++ [c]) = Lib.parseUintM M v [c]
  | [], acc, v, h => by
    simp only [Lib.parseUintM] at h
    injection h with h
    subst h
    rfl
  | x :: r, acc, v, h => by
    simp only [List.cons_append]
    simp only [Lib.parseUintM] at h ⊢
    split at h
    · rename_i hd
      rw [if_pos hd]
      split at h
      · cases h
      · rename_i h1
        rw [if_neg h1]
        split at h
        · cases h
        · rename_i h2
          rw [if_neg h2]
          have := parse_snoc M c r _ v h
          simpa only [Lib.parseUintM] using this
    · cases h

theorem dig_nat {d : Nat} (h : d < 10) : (UInt8.ofNat (48 + d)).toNat = 48 + d := by rw [UInt8.toNat_ofNat']; omega

theorem parse_dec (u : Nat) (h : u ≤ 18446744073709551615) : Lib.parseUintM 18446744073709551615 0 (Lib.decDigits u) = .ok u := by
  induction u using Nat.strongRecOn with
  | ind u ih =>
    rw [Lib.decDigits]
    by_cases hu : u < 10
    · rw [dif_pos hu]
      simp only [Lib.parseUintM, dig_nat hu]
      rw [if_pos (by omega), if_neg (by omega), if_neg (by omega)]
      congr 1; omega
    · rw [dif_neg hu]
      rw [parse_snoc _ _ _ _ (u / 10) (ih (u / 10) (by omega) (by omega))]
      have hd : u % 10 < 10 := Nat.mod_lt _ (by decide)
      simp only [Lib.parseUintM, dig_nat hd]
      rw [if_pos (by omega), if_neg (by omega), if_neg (by omega)]
      congr 1; omega

theorem parse_lt (M : Nat) : ∀ (l : List UInt8) (acc u : Nat), Lib.parseUintM M acc l = .ok u → u < (acc + 1) * 10 ^ l.length
  | [], acc, u, h => by
    simp only [Lib.parseUintM] at h
    injection h with h
    simp; omega
  | c :: r, acc, u, h => by
    simp only [Lib.parseUintM] at h
    split at h
    · split at h
      · cases h
      · split at h
        · cases h
        · have := parse_lt M r _ u h
          rw [List.length_cons, Nat.pow_succ, Nat.mul_comm (10 ^ r.length), ← Nat.mul_assoc]
          refine Nat.lt_of_lt_of_le this (Nat.mul_le_mul_right _ ?_)
          omega
    · cases h

theorem dec_digit (u : Nat) : ∀ c ∈ Lib.decDigits u, digB c.toNat = true := by
  induction u using Nat.strongRecOn with
  | ind u ih =>
    intro c hc
    rw [Lib.decDigits] at hc
    by_cases hu : u < 10
    · rw [dif_pos hu] at hc
      simp only [List.mem_singleton] at hc
      subst hc
      rw [dig_nat hu]; simp [digB]; omega
    · rw [dif_neg hu, List.mem_append] at hc
      rcases hc with hc | hc
      · exact ih _ (by omega) c hc
      · simp only [List.mem_singleton] at hc
        subst hc
        rw [dig_nat (Nat.mod_lt _ (by decide))]; simp [digB]; omega

theorem dec_ne (u : Nat) : Lib.decDigits u ≠ [] := by
  intro h
  have := Lib.decDigits_length u
  rw [h] at this
  have := Lib.nDigits_pos u
  simp at *; omega

theorem dec_head (u : Nat) (h : bt (Lib.decDigits u) 0 = 48) : u = 0 := by
  induction u using Nat.strongRecOn with
  | ind u ih =>
    rw [Lib.decDigits] at h
    by_cases hu : u < 10
    · rw [dif_pos hu] at h
      simp only [bt, List.getD_cons_zero, dig_nat hu] at h
      omega
    · rw [dif_neg hu] at h
      have e : bt (Lib.decDigits (u / 10) ++ [UInt8.ofNat (48 + u % 10)]) 0 = bt (Lib.decDigits (u / 10)) 0 := by
        have hl : 0 < (Lib.decDigits (u / 10)).length := List.length_pos_iff.2 (dec_ne _)
        unfold bt
        rw [List.getD_eq_getElem?_getD, List.getD_eq_getElem?_getD, List.getElem?_append_left hl]
      rw [e] at h
      have := ih (u / 10) (by omega) h
      omega

theorem digs_all {l : List UInt8} (h : ∀ c ∈ l, digB c.toNat = true) : digs l = l.length := by
  unfold digs
  induction l with
  | nil => rfl
  | cons c l ih =>
    rw [List.takeWhile_cons, if_pos (h c List.mem_cons_self), List.length_cons, ih fun x hx => h x (List.mem_cons_of_mem _ hx), List.length_cons]

theorem bt0 (c : UInt8) (l : List UInt8) : bt (c :: l) 0 = c.toNat := by simp [bt]

theorem itoa_cases (n : Int) : (∃ u : Nat, n = (u : Int) ∧ Lib.itoa n = Lib.decDigits u) ∨ ∃ u : Nat, 1 ≤ u ∧ n = -(u : Int) ∧ Lib.itoa n = 45 :: Lib.decDigits u := by
  by_cases h : n < 0
  · exact .inr ⟨n.natAbs, by omega, by omega, by unfold Lib.itoa; rw [if_pos h]⟩
  · exact .inl ⟨n.toNat, by omega, by unfold Lib.itoa; rw [if_neg h]⟩

theorem itoa_parse (n : Int) (h0 : -9223372036854775808 ≤ n) (h1 : n ≤ 9223372036854775807) : Lib.parseIntB 64 (Lib.itoa n) = .ok n := by
  have e : (2 : Nat) ^ (64 - 1) = 9223372036854775808 := by decide
  have e2 : (2 : Nat) ^ 64 - 1 = 18446744073709551615 := by decide
  rcases itoa_cases n with ⟨u, rfl, hi⟩ | ⟨u, hu, rfl, hi⟩
  · rw [hi]
    have hp := parse_dec u (by omega)
    cases hd : Lib.decDigits u with
    | nil => exact absurd hd (dec_ne u)
    | cons c r =>
      have hc := dec_digit u c (by rw [hd]; exact List.mem_cons_self)
      simp only [digB, decide_eq_true_eq] at hc
      rw [Lib.parseIntB_plain 64 c r (by omega) (by omega)]
      unfold Lib.parseUintB
      rw [if_neg (by simp), ← hd, e, e2, hp]
      simp only [Lib.signlessC]
      rw [if_neg (by omega)]
  · rw [hi, Lib.parseIntB_minus]
    unfold Lib.parseUintB
    rw [if_neg (dec_ne u), e, e2, parse_dec u (by omega)]
    simp only [Lib.signedC]
    rw [if_neg (by omega)]

theorem trim_dec (u : Nat) : Lib.trimPrefix (Lib.decDigits u) [45] = Lib.decDigits u := by
  unfold Lib.trimPrefix
  rw [if_neg]
  cases hd : Lib.decDigits u with
  | nil => exact absurd hd (dec_ne u)
  | cons c r =>
    have hc := dec_digit u c (by rw [hd]; exact List.mem_cons_self)
    simp only [digB, decide_eq_true_eq] at hc
    simp only [Lib.hasPrefix, List.isPrefixOf]
    intro h
    simp only [Bool.and_true, beq_iff_eq] at h
    subst h
    simp at hc

theorem tok_itoa (n : Int) : numTok (Lib.itoa n) 0 = Lib.itoa n ∧ ¬ (bt (Lib.trimPrefix (Lib.itoa n) [45]) 0 = 48 ∧ 1 < (Lib.itoa n).length) ∧ numAt (Lib.itoa n) = true ∧ Lib.hasPrefix (Lib.itoa n) [34] = false := by
  have tok : ∀ (c : UInt8) (l : List UInt8), (∀ c ∈ l, digB c.toNat = true) → numTok (c :: l) 0 = c :: l := by
    intro c l h
    unfold numTok
    simp only [List.drop_zero, Nat.zero_add, List.drop_succ_cons]
    rw [digs_all h]
    apply List.take_of_length_le
    simp only [List.length_cons]; omega
  rcases itoa_cases n with ⟨u, rfl, hi⟩ | ⟨u, hu, rfl, hi⟩
  · rw [hi, trim_dec]
    refine ⟨?_, ?_, ?_, ?_⟩
    · cases hd : Lib.decDigits u with
      | nil => exact absurd hd (dec_ne u)
      | cons c r => exact tok c r fun x hx => dec_digit u x (by rw [hd]; exact List.mem_cons_of_mem _ hx)
    · rintro ⟨h, hl⟩
      obtain rfl := dec_head u h
      rw [Lib.decDigits_length, Lib.nDigits_small (by decide)] at hl
      omega
    · cases hd : Lib.decDigits u with
      | nil => exact absurd hd (dec_ne u)
      | cons c r =>
        have hc := dec_digit u c (by rw [hd]; exact List.mem_cons_self)
        unfold numAt
        rw [bt0, hc]; simp
    · cases hd : Lib.decDigits u with
      | nil => exact absurd hd (dec_ne u)
      | cons c r =>
        have hc := dec_digit u c (by rw [hd]; exact List.mem_cons_self)
        simp only [digB, decide_eq_true_eq] at hc
        simp only [Lib.hasPrefix, List.isPrefixOf, Bool.and_true, beq_eq_false_iff_ne]
        rintro rfl
        simp at hc
  · rw [hi]
    refine ⟨tok _ _ (dec_digit u), ?_, ?_, rfl⟩
    · have e : Lib.trimPrefix (45 :: Lib.decDigits u) [45] = Lib.decDigits u := by simp [Lib.trimPrefix, Lib.hasPrefix, List.isPrefixOf]
      rw [e]
      rintro ⟨h, _⟩
      have := dec_head u h
      omega
    · cases hd : Lib.decDigits u with
      | nil => exact absurd hd (dec_ne u)
      | cons c r =>
        have hc := dec_digit u c (by rw [hd]; exact List.mem_cons_self)
        have e1 : bt (45 :: c :: r) 1 = c.toNat := by simp [bt]
        unfold numAt
        rw [bt0, e1, hc]; simp

theorem scan_itoa (n : Int) (h0 : -9223372036854775808 ≤ n) (h1 : n ≤ 9223372036854775807) : scanR (Lib.itoa n) 0 = ⟨1, n, [], (Lib.itoa n).length, 0⟩ := by
  obtain ⟨a, b, c, d⟩ := tok_itoa n
  unfold scanR
  rw [if_neg (by omega)]
  simp only [Int.toNat_zero, List.drop_zero]
  rw [d, c, if_neg (by simp), if_pos rfl]
  unfold numR
  rw [a, if_neg b, itoa_parse n h0 h1]
  simp

/-! texts -/

theorem hex_back : ∀ i : Fin 16, hexI ((hexd i.val).toNat : Int) = i.val := by decide +kernel
theorem hex_back' {i : Int} (h0 : 0 ≤ i) (h1 : i < 16) : hexI ((hexd i).toNat : Int) = i := by
  have := hex_back ⟨i.toNat, by omega⟩
  simpa only [Int.toNat_of_nonneg h0] using this

theorem bt1 (a b : UInt8) (l : List UInt8) : bt (a :: b :: l) 1 = b.toNat := by simp [bt]
theorem bt2' (a b c : UInt8) (l : List UInt8) : bt (a :: b :: c :: l) 2 = c.toNat := by simp [bt]
theorem bt3' (a b c d : UInt8) (l : List UInt8) : bt (a :: b :: c :: d :: l) 3 = d.toNat := by simp [bt]

theorem scan_showB (c : UInt8) (r : List UInt8) : scanB (showB c.toNat ++ r) = ((c.toNat : Int), ((showB c.toNat).length : Int)) ∧ bt (showB c.toNat ++ r) 0 ≠ 34 ∧ showB c.toNat ≠ [] := by
  have hb : (UInt8.ofNat ((c.toNat : Int)).toNat) = c := by simp
  have hlt := c.toNat_lt
  unfold showB
  rw [hb]
  split
  · rename_i h
    refine ⟨?_, by simp [bt0], by simp⟩
    simp only [List.cons_append, List.nil_append, scanB, bt0, bt1]
    rw [if_neg (by simp), if_neg (by simp; omega), if_pos (by simpa using h)]
    rfl
  · rename_i h
    split
    · rename_i h10
      refine ⟨?_, by simp [bt0], by simp⟩
      simp only [List.cons_append, List.nil_append, scanB, bt0, bt1]
      rw [if_neg (by simp), if_neg (by simp; omega), if_neg (by simp), if_pos (by simp)]
      simp [h10]
    · split
      · rename_i h9
        refine ⟨?_, by simp [bt0], by simp⟩
        simp only [List.cons_append, List.nil_append, scanB, bt0, bt1]
        rw [if_neg (by simp), if_neg (by simp; omega), if_neg (by simp), if_neg (by simp), if_pos (by simp)]
        simp [h9]
      · split
        · rename_i h32
          refine ⟨?_, ?_, by simp⟩
          · simp only [List.cons_append, List.nil_append, scanB, bt0]
            rw [if_pos (by omega), if_neg (by omega), if_neg (by omega)]
            rfl
          · simp only [List.cons_append, List.nil_append, bt0]
            omega
        · refine ⟨?_, by simp [bt0], by simp⟩
          simp only [List.cons_append, List.nil_append, scanB, bt0, bt1, bt2', bt3']
          have e1 := hex_back' (i := (c.toNat : Int) / 16) (by omega) (by omega)
          have e2 := hex_back' (i := (c.toNat : Int) % 16) (by omega) (by omega)
          rw [e1, e2]
          rw [if_neg (by simp), if_neg (by simp; omega), if_neg (by simp), if_neg (by simp), if_neg (by simp), if_pos (by simp), if_neg (by simp; omega), if_neg (by omega), if_neg (by omega)]
          refine Prod.ext ?_ ?_
          · simp only; omega
          · simp

theorem textScan_show (t r : List UInt8) : textScan (showT t ++ 34 :: r) = some (t, (showT t).length) := by
  induction t with
  | nil =>
    rw [show showT [] ++ 34 :: r = 34 :: r from rfl, textScan_quote (by simp) (by simp [bt])]
    rfl
  | cons c t ih =>
    obtain ⟨a, b, d⟩ := scan_showB c (showT t ++ 34 :: r)
    have e : showT (c :: t) ++ 34 :: r = showB c.toNat ++ (showT t ++ 34 :: r) := by simp [showT]
    have el : (showT (c :: t)).length = (showB c.toNat).length + (showT t).length := by simp [showT]
    have hl : 0 < (showB c.toNat).length := List.length_pos_iff.2 d
    rw [e, textScan_step (by simp [d]) b (by rw [a]; simp only; omega), a]
    simp only [Int.toNat_natCast, List.drop_left, ih, Option.map_some]
    rw [el]
    have hb : (UInt8.ofNat c.toNat) = c := by simp
    rw [hb]
    congr 2
    omega

theorem show_scanB {l : List UInt8} (hl : l ≠ []) (hq34 : bt l 0 ≠ 34) (h : (scanB l).2 ≠ 0) : ((showB (scanB l).1).length : Int) ≤ (scanB l).2 := by
  have h4 : ∀ c : Int, (showB c).length ≤ 4 := by intro c; unfold showB; (repeat' split) <;> simp
  have h0 := bt_bd l 0
  have h1 := bt_bd l 1
  revert h
  unfold scanB
  repeat' split
  all_goals (intro h; simp only at h ⊢)
  all_goals first
    | (exact absurd rfl h)
    | (have := h4 (hexI (bt l 2) * 16 + hexI (bt l 3)); omega)
    | skip
  all_goals unfold showB
  · rename_i hq h32 h126
    rw [if_neg (by omega), if_neg (by omega), if_neg (by omega), if_pos (by omega)]; simp
  · rename_i hq; rw [if_pos hq]; simp
  · simp
  · simp

theorem textScan_good : ∀ (m : Nat) (l t : List UInt8) (n : Nat), l.length ≤ m → textScan l = some (t, n) → (showT t).length ≤ n ∧ n < l.length := by
  intro m
  induction m with
  | zero =>
    intro l t n hl h
    have : l = [] := List.length_eq_zero_iff.1 (by omega)
    subst this
    rw [textScan_nil] at h
    cases h
  | succ m ih =>
    intro l t n hl h
    by_cases h0 : l = []
    · subst h0; rw [textScan_nil] at h; cases h
    have hpos : 0 < l.length := List.length_pos_iff.2 h0
    by_cases hq : bt l 0 = 34
    · rw [textScan_quote h0 hq] at h
      injection h with h
      injection h with ht hn
      subst ht hn
      exact ⟨Nat.le_refl _, hpos⟩
    by_cases hn : (scanB l).2 = 0
    · rw [textScan_bad h0 hq hn] at h; cases h
    obtain ⟨hc, b0, b1, b2⟩ := scanB_bd l h0
    rw [textScan_step h0 hq hn] at h
    cases hr : textScan (l.drop (scanB l).2.toNat) with
    | none => rw [hr] at h; cases h
    | some p =>
      obtain ⟨t', n'⟩ := p
      rw [hr] at h
      injection h with h
      injection h with ht hn'
      subst ht hn'
      have hd : (l.drop (scanB l).2.toNat).length = l.length - (scanB l).2.toNat := List.length_drop
      obtain ⟨g1, g2⟩ := ih _ t' n' (by omega) hr
      have gs := show_scanB h0 hq hn
      have e : ((UInt8.ofNat (scanB l).1.toNat).toNat : Int) = (scanB l).1 := by rw [UInt8.toNat_ofNat']; omega
      have el : (showT (UInt8.ofNat (scanB l).1.toNat :: t')).length = (showB (scanB l).1).length + (showT t').length := by
        simp only [showT, List.flatMap_cons, List.length_append, e]
      rw [el]
      simp only at *
      omega

/-! values -/

theorem scanR_text (l : List UInt8) : scanR (34 :: l) 0 = textR l 1 := by
  unfold scanR
  rw [if_neg (by simp; omega)]
  rw [if_pos (by simp [Lib.hasPrefix, List.isPrefixOf])]
  simp

theorem read_show {k n : Int} {t : List UInt8} (h : validB k n t = true) (h0 : -9223372036854775808 ≤ n) (h1 : n ≤ 9223372036854775807) : readR (showR k n t) = ⟨k, n, t, 0, 0⟩ := by
  unfold showR
  rw [if_pos h]
  simp only [validB, decide_eq_true_eq] at h
  rcases h with ⟨rfl, rfl⟩ | ⟨rfl, rfl, ht⟩
  · rw [if_pos rfl]
    unfold readR
    rw [scan_itoa n h0 h1]
    simp
  · rw [if_neg (by decide)]
    unfold readR
    rw [scanR_text]
    have e : textR (showT t ++ [34]) 1 = ⟨2, 0, t, 1 + (showT t).length + 1, 0⟩ := by
      unfold textR
      rw [textScan_show]
      simp only
      rw [if_neg (by omega)]
    rw [e]
    rw [if_neg (by simp; omega)]

theorem itoa_len {l : List UInt8} {n : Int} (h : Lib.parseIntB 64 l = .ok n) : (Lib.itoa n).length ≤ l.length := by
  have e2 : (2 : Nat) ^ 64 - 1 = 18446744073709551615 := by decide
  have key : ∀ (r : List UInt8) (u : Nat), Lib.parseUintB 64 r = .ok u → (Lib.decDigits u).length ≤ r.length ∧ r ≠ [] := by
    intro r u hu
    unfold Lib.parseUintB at hu
    split at hu
    · cases hu
    · rename_i hr
      refine ⟨?_, hr⟩
      have hb := parse_lt _ _ _ _ hu
      have hpos : 0 < r.length := List.length_pos_iff.2 hr
      rw [Lib.decDigits_length]
      obtain ⟨k, hk⟩ : ∃ k, r.length = k + 1 := ⟨r.length - 1, by omega⟩
      rw [hk] at hb ⊢
      exact nDigits_le (by simpa using hb)
  have pos : ∀ u : Nat, (Lib.itoa (u : Int)).length = (Lib.decDigits u).length := by
    intro u; unfold Lib.itoa; rw [if_neg (by omega)]; simp
  cases l with
  | nil => cases h
  | cons c r =>
    by_cases h43 : c = 43
    · subst h43
      rw [Lib.parseIntB_plus] at h
      cases hu : Lib.parseUintB 64 r with
      | ok u =>
        rw [hu] at h
        simp only [Lib.signlessC] at h
        split at h
        · cases h
        · injection h with h
          subst h
          have := (key r u hu).1
          rw [pos, List.length_cons]; omega
      | _ => rw [hu] at h; cases h
    by_cases h45 : c = 45
    · subst h45
      rw [Lib.parseIntB_minus] at h
      cases hu : Lib.parseUintB 64 r with
      | ok u =>
        rw [hu] at h
        simp only [Lib.signedC] at h
        split at h
        · cases h
        · injection h with h
          subst h
          have := (key r u hu).1
          have hl : (Lib.itoa (-(u : Int))).length ≤ 1 + (Lib.decDigits u).length := by
            by_cases h0 : u = 0
            · subst h0
              have := pos 0
              simp at *; omega
            · unfold Lib.itoa
              rw [if_pos (by omega)]
              simp; omega
          rw [List.length_cons]; omega
      | _ => rw [hu] at h; cases h
    · rw [Lib.parseIntB_plain 64 c r (fun e => h43 (UInt8.toNat_inj.1 e)) (fun e => h45 (UInt8.toNat_inj.1 e))] at h
      cases hu : Lib.parseUintB 64 (c :: r) with
      | ok u =>
        rw [hu] at h
        simp only [Lib.signlessC] at h
        split at h
        · cases h
        · injection h with h
          subst h
          have := (key _ u hu).1
          rw [pos]; exact this
      | _ => rw [hu] at h; cases h

theorem scan0 (l : List UInt8) : scanR l 0 = if Lib.hasPrefix l [34] = true then textR (l.drop 1) 1 else if numAt l = true then numR l 0 else bad 11 := by
  unfold scanR
  rw [if_neg (by omega)]
  simp only [Int.toNat_zero, List.drop_zero, Nat.zero_add, Int.zero_add]
theorem scanb (b l : List UInt8) : scanR (b ++ l) b.length = if Lib.hasPrefix l [34] = true then textR (l.drop 1) (b.length + 1) else if numAt l = true then numR (b ++ l) b.length else bad 11 := by
  have hd1 : (b ++ l).drop (b.length + 1) = l.drop 1 := by
    rw [List.drop_append, List.drop_eq_nil_of_le (by omega), List.nil_append]; congr 1; omega
  unfold scanR
  rw [if_neg (by simp; omega)]
  simp only [Int.toNat_natCast, List.drop_left, hd1]

/-- What a scan at the front tells. -/
theorem scan_good (l : List UInt8) : (scanR l 0).e = 0 → validB (scanR l 0).k (scanR l 0).n (scanR l 0).t = true ∧ (-9223372036854775808 ≤ (scanR l 0).n ∧ (scanR l 0).n ≤ 9223372036854775807) ∧
    ((showR (scanR l 0).k (scanR l 0).n (scanR l 0).t).length : Int) ≤ (scanR l 0).stop ∧ 0 ≤ (scanR l 0).stop ∧ (scanR l 0).stop ≤ l.length := by
  rw [scan0]
  intro h
  split at h
  · rename_i hp
    rw [if_pos hp]
    unfold textR at *
    cases hs : textScan (l.drop 1) with
    | none => rw [hs] at h; simp [bad] at h
    | some p =>
      obtain ⟨t, n⟩ := p
      rw [hs] at h
      simp only at h ⊢
      split at h
      · simp [bad] at h
      · rename_i h64
        rw [if_neg h64]
        obtain ⟨g1, g2⟩ := textScan_good _ _ t n (Nat.le_refl _) hs
        have hv : validB 2 0 t = true := by simp [validB]; omega
        rw [List.length_drop] at g2
        refine ⟨hv, ⟨by simp, by simp⟩, ?_, by simp only; omega, by simp only; omega⟩
        simp only [showR]
        rw [if_pos hv, if_neg (by decide)]
        simp; omega
  · rename_i hp
    rw [if_neg hp]
    split at h
    · rename_i hn
      rw [if_pos hn]
      unfold numR at *
      split at h
      · simp [bad] at h
      · rename_i hz
        rw [if_neg hz]
        cases hpz : Lib.parseIntB 64 (numTok l 0) with
        | ok v =>
          have hb := Lib.parseIntB_bounds hpz
          have e : (2 : Nat) ^ (64 - 1) = 9223372036854775808 := by decide
          rw [e] at hb
          have hlen := itoa_len hpz
          have hv : validB 1 v [] = true := by simp [validB]
          have htl : (numTok l 0).length ≤ l.length := by unfold numTok; simp; omega
          refine ⟨hv, ⟨by simp only; omega, by simp only; omega⟩, ?_, by simp only; omega, by simp only; omega⟩
          simp only [showR]
          rw [if_pos hv, if_pos trivial]
          omega
        | _ => rw [hpz] at h; simp [bad] at h
    · simp [bad] at h

theorem scan_bad (l : List UInt8) (a : Int) : (scanR l a).e ≠ 0 → (scanR l a).k = 0 ∧ (scanR l a).n = 0 ∧ (scanR l a).t = [] ∧ (scanR l a).stop = 0 := by
  unfold scanR textR numR
  repeat' split
  all_goals (intro h; first | exact ⟨rfl, rfl, rfl, rfl⟩ | exact absurd rfl h)

/-- What a read tells. -/
theorem read_good (l : List UInt8) (h : (readR l).e = 0) : validB (readR l).k (readR l).n (readR l).t = true ∧ (-9223372036854775808 ≤ (readR l).n ∧ (readR l).n ≤ 9223372036854775807) ∧ (showR (readR l).k (readR l).n (readR l).t).length ≤ l.length := by
  unfold readR at *
  split at h
  · simp at h
  · rename_i hs
    rw [if_neg hs]
    obtain ⟨a, b, c, d, f⟩ := scan_good l h
    exact ⟨a, b, by simp only; omega⟩

theorem read_bad (l : List UInt8) (h : (readR l).e ≠ 0) : (readR l).k = 0 ∧ (readR l).n = 0 ∧ (readR l).t = [] := by
  unfold readR at *
  split at h
  · rename_i hs; rw [if_pos hs]; exact ⟨rfl, rfl, rfl⟩
  · rename_i hs
    rw [if_neg hs]
    obtain ⟨a, b, c, _⟩ := scan_bad l 0 h
    exact ⟨a, b, c⟩

/-- What a scan reads hangs on what follows its place alone. -/
theorem scan_shift (b l : List UInt8) : scanR (b ++ l) b.length = ⟨(scanR l 0).k, (scanR l 0).n, (scanR l 0).t, if (scanR l 0).e = 0 then b.length + (scanR l 0).stop else 0, (scanR l 0).e⟩ := by
  rw [scan0, scanb]
  by_cases hp : Lib.hasPrefix l [34] = true
  · rw [if_pos hp, if_pos hp]
    unfold textR
    cases textScan (l.drop 1) with
    | none => rfl
    | some p =>
      obtain ⟨t, n⟩ := p
      simp only
      by_cases h64 : 64 < t.length
      · rw [if_pos h64, if_pos h64]; rfl
      · rw [if_neg h64, if_neg h64]
        simp only [if_true]
        congr 1
        omega
  · rw [if_neg hp, if_neg hp]
    by_cases hn : numAt l = true
    · rw [if_pos hn, if_pos hn]
      have hd1 : (b ++ l).drop (b.length + 1) = l.drop 1 := by
        rw [List.drop_append, List.drop_eq_nil_of_le (by omega), List.nil_append]; congr 1; omega
      have ht : numTok (b ++ l) b.length = numTok l 0 := by unfold numTok; rw [List.drop_left, hd1]; rfl
      unfold numR
      rw [ht]
      by_cases hz : bt (Lib.trimPrefix (numTok l 0) [45]) 0 = 48 ∧ 1 < (numTok l 0).length
      · rw [if_pos hz, if_pos hz]; rfl
      · rw [if_neg hz, if_neg hz]
        cases Lib.parseIntB 64 (numTok l 0) with
        | ok v => simp
        | _ => rfl
    · rw [if_neg hn, if_neg hn]; rfl

/-- A text of numbers and letters alone is written as it is. -/
theorem show_plain {t : List UInt8} (h : ∀ c ∈ t, 48 ≤ c.toNat ∧ c.toNat ≤ 57 ∨ 97 ≤ c.toNat ∧ c.toNat ≤ 122) : showT t = t := by
  induction t with
  | nil => rfl
  | cons c t ih =>
    have hc := h c List.mem_cons_self
    have hs : showB c.toNat = [c] := by
      unfold showB
      rw [if_neg (by omega), if_neg (by omega), if_neg (by omega), if_pos (by omega)]
      simp
    have := ih fun x hx => h x (List.mem_cons_of_mem _ hx)
    simp only [showT, List.flatMap_cons, hs] at *
    rw [this]; rfl

theorem scan_plain {t : List UInt8} (h : ∀ c ∈ t, 48 ≤ c.toNat ∧ c.toNat ≤ 57 ∨ 97 ≤ c.toNat ∧ c.toNat ≤ 122) :
    scanR (34 :: (t ++ [34, 34])) 0 = if 64 < t.length then bad 13 else ⟨2, 0, t, t.length + 2, 0⟩ := by
  rw [scanR_text]
  unfold textR
  have e := textScan_show t [34]
  rw [show_plain h] at e
  rw [e]
  simp only
  split
  · rfl
  · congr 1; omega
end Go.Proofs.YthfibaajmbhdkaaDoor
