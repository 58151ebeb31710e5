/- Tokens, plainly: what a token hangs on. -/
import Derived.Test.YthfibaajmbhdkaaDoorLxp
import Derived.Test.YthfibaajmbhdkaaDoorPn
namespace Go.Proofs.YthfibaajmbhdkaaDoor
open Go.RowKit
set_option linter.unusedVariables false

theorem scanB_same {l z : List UInt8} (h : (scanB l).2 ≠ 0) (hl : (scanB l).2 ≤ l.length) (hz : (scanB l).2 ≤ z.length) (hb : ∀ j : Nat, (j : Int) < (scanB l).2 → bt z j = bt l j) : scanB z = scanB l := by
  unfold scanB at h hz hb hl ⊢
  by_cases h0 : bt l 0 = 92
  · have n0 : ¬ bt l 0 ≠ 92 := by simp [h0]
    rw [if_neg n0] at h hz hb hl
    conv => rhs; rw [if_neg n0]
    by_cases h1 : (l.length : Int) < 2
    · rw [if_pos h1] at h; simp at h
    · rw [if_neg h1] at h hz hb hl
      conv => rhs; rw [if_neg h1]
      by_cases h2 : bt l 1 = 34 ∨ bt l 1 = 92
      · rw [if_pos h2] at h hz hb hl
        conv => rhs; rw [if_pos h2]
        have e0 := hb 0 (by simp)
        have e1 := hb 1 (by simp)
        simp only at hz
        rw [e0, e1, if_neg n0, if_neg (by omega), if_pos h2]
      · rw [if_neg h2] at h hz hb hl
        conv => rhs; rw [if_neg h2]
        by_cases h3 : bt l 1 = 110
        · rw [if_pos h3] at h hz hb hl
          conv => rhs; rw [if_pos h3]
          have e0 := hb 0 (by simp)
          have e1 := hb 1 (by simp)
          simp only at hz
          rw [e0, e1, if_neg n0, if_neg (by omega), if_neg h2, if_pos h3]
        · rw [if_neg h3] at h hz hb hl
          conv => rhs; rw [if_neg h3]
          by_cases h4 : bt l 1 = 116
          · rw [if_pos h4] at h hz hb hl
            conv => rhs; rw [if_pos h4]
            have e0 := hb 0 (by simp)
            have e1 := hb 1 (by simp)
            simp only at hz
            rw [e0, e1, if_neg n0, if_neg (by omega), if_neg h2, if_neg h3, if_pos h4]
          · rw [if_neg h4] at h hz hb hl
            conv => rhs; rw [if_neg h4]
            by_cases h5 : bt l 1 = 120
            · rw [if_pos h5] at h hz hb hl
              conv => rhs; rw [if_pos h5]
              by_cases h6 : (l.length : Int) < 4
              · rw [if_pos h6] at h; simp at h
              · rw [if_neg h6] at h hz hb hl
                conv => rhs; rw [if_neg h6]
                by_cases h7 : hexI (bt l 2) < 0
                · rw [if_pos h7] at h; simp at h
                · rw [if_neg h7] at h hz hb hl
                  conv => rhs; rw [if_neg h7]
                  by_cases h8 : hexI (bt l 3) < 0
                  · rw [if_pos h8] at h; simp at h
                  · rw [if_neg h8] at h hz hb hl
                    conv => rhs; rw [if_neg h8]
                    have e0 := hb 0 (by simp)
                    have e1 := hb 1 (by simp)
                    have e2 := hb 2 (by simp)
                    have e3 := hb 3 (by simp)
                    simp only at hz
                    rw [e0, e1, e2, e3, if_neg n0, if_neg (by omega), if_neg h2, if_neg h3, if_neg h4, if_pos h5, if_neg (by omega), if_neg h7, if_neg h8]
            · rw [if_neg h5] at h; simp at h
  · rw [if_pos h0] at h hz hb hl
    conv => rhs; rw [if_pos h0]
    by_cases h1 : bt l 0 < 32
    · rw [if_pos h1] at h; simp at h
    · rw [if_neg h1] at h hz hb hl
      conv => rhs; rw [if_neg h1]
      by_cases h2 : 126 < bt l 0
      · rw [if_pos h2] at h; simp at h
      · rw [if_neg h2] at h hz hb hl
        conv => rhs; rw [if_neg h2]
        have e0 := hb 0 (by simp)
        rw [e0, if_pos h0, if_neg h1, if_neg h2]

theorem bt_take_app {l y : List UInt8} {n j : Nat} (hj : j < n) (hn : n ≤ l.length) : bt (l.take n ++ y) j = bt l j := by
  unfold bt
  rw [List.getD_eq_getElem?_getD, List.getD_eq_getElem?_getD, List.getElem?_append_left (by rw [List.length_take]; omega), List.getElem?_take_of_lt hj]

theorem textScan_stable (y : List UInt8) : ∀ (m : Nat) (l t : List UInt8) (n : Nat), l.length ≤ m → textScan l = some (t, n) → textScan (l.take (n + 1) ++ y) = some (t, n) := by
  intro m
  induction m with
  | zero =>
    intro l t n hm h
    have : l = [] := List.length_eq_zero_iff.1 (by omega)
    subst this
    rw [textScan_nil] at h; cases h
  | succ m ih =>
    intro l t n hm h
    have hn := text_stop h
    have hl : l ≠ [] := fun e => by subst e; rw [textScan_nil] at h; cases h
    have hz : l.take (n + 1) ++ y ≠ [] := by
      intro e
      have := congrArg List.length e
      rw [List.length_append, List.length_take, List.length_nil] at this
      omega
    by_cases hq : bt l 0 = 34
    · rw [textScan_quote hl hq] at h
      cases h
      exact textScan_quote hz (by rw [bt_take_app (by omega) (by omega)]; exact hq)
    · by_cases hs : (scanB l).2 = 0
      · rw [textScan_bad hl hq hs] at h; cases h
      · rw [textScan_step hl hq hs] at h
        have hb := scanB_bd l hl
        cases h2 : textScan (l.drop (scanB l).2.toNat) with
        | none => rw [h2] at h; cases h
        | some q =>
          obtain ⟨t', n'⟩ := q
          rw [h2] at h
          simp only [Option.map_some, Option.some.injEq, Prod.mk.injEq] at h
          obtain ⟨rfl, rfl⟩ := h
          have hsc : scanB (l.take (n' + (scanB l).2.toNat + 1) ++ y) = scanB l := by
            refine scanB_same hs (by omega) ?_ ?_
            · rw [List.length_append, List.length_take]; omega
            · intro j hj
              exact bt_take_app (by omega) (by omega)
          rw [textScan_step hz (by rw [bt_take_app (by omega) (by omega)]; exact hq) (by rw [hsc]; exact hs), hsc]
          have he : (l.take (n' + (scanB l).2.toNat + 1) ++ y).drop (scanB l).2.toNat = (l.drop (scanB l).2.toNat).take (n' + 1) ++ y := by
            rw [List.drop_append_of_le_length (by rw [List.length_take]; omega), List.drop_take]
            congr 2
            omega
          rw [he, ih _ t' n' (by rw [List.length_drop]; omega) h2]
          rfl

theorem digs_app {x y rest : List UInt8} (hx : digs (x ++ rest) = x.length) (hc : digB (bt y 0) = true → digB (bt rest 0) = true) : digs (x ++ y) = x.length := by
  have hall : ∀ c ∈ x, digB c.toNat = true := by
    intro c hcx
    have h := dig_take (l := x ++ rest) c
    rw [hx, List.take_left] at h
    exact h hcx
  have e : ∀ z : List UInt8, digs (x ++ z) = x.length + digs z := by
    intro z
    unfold digs
    rw [List.takeWhile_append_of_pos (by simpa using hall), List.length_append]
  rw [e] at hx
  rw [e]
  have h0 : digs rest = 0 := by omega
  have hr : digB (bt rest 0) = false := by
    cases rest with
    | nil => decide
    | cons c r =>
      rw [bt_cons0]
      cases hd : digB c.toNat with
      | false => rfl
      | true =>
        exfalso
        have := digs_step (l := c :: r) (k := 0) (by simp) (by rw [bt_cons0]; exact hd)
        rw [List.drop_zero] at this
        omega
  have hy : digB (bt y 0) = false := by
    cases hd : digB (bt y 0) with
    | false => rfl
    | true => rw [hc hd] at hr; cases hr
  cases y with
  | nil => rfl
  | cons c r =>
    have := digs_stop (l := c :: r) (k := 0) (by simp) hy
    rw [List.drop_zero] at this
    omega

theorem scan_stable {r x rest y : List UInt8} (hr : r = x ++ rest) (hne : r ≠ []) (he : (scanR r 0).e = 0) (hx : (scanR r 0).stop = x.length) (hc : digB (bt y 0) = true → digB (bt rest 0) = true) :
    scanR (x ++ y) 0 = scanR r 0 ∧ (bt r 0 = 45 → 2 ≤ x.length) := by
  subst hr
  rw [scan0] at he hx
  rw [scan0 (x ++ y), scan0 (x ++ rest)]
  split at he
  · rename_i hp
    rw [if_pos hp] at hx ⊢
    unfold textR at he hx ⊢
    cases hs : textScan ((x ++ rest).drop 1) with
    | none => rw [hs] at he; simp [bad] at he
    | some q =>
      obtain ⟨t, n⟩ := q
      have hn := text_stop hs
      rw [hs] at he hx
      simp only at he hx
      split at he
      · simp [bad] at he
      · rename_i h64
        rw [if_neg h64] at hx
        simp only at hx
        have hxl : x.length = n + 2 := by omega
        obtain ⟨c, x', rfl⟩ : ∃ c x', x = c :: x' := by
          cases x with
          | nil => simp at hxl
          | cons c x' => exact ⟨c, x', rfl⟩
        have hc34 : c = 34 := by
          simp only [List.cons_append, Lib.hasPrefix, List.isPrefixOf, Bool.and_true, beq_iff_eq] at hp
          exact hp.symm
        subst hc34
        have e2 : (34 :: x' ++ y).drop 1 = ((34 :: x' ++ rest).drop 1).take (n + 1) ++ y := by
          simp only [List.cons_append, List.drop_succ_cons, List.drop_zero]
          simp only [List.length_cons] at hxl
          rw [List.take_left' (by omega)]
        rw [if_pos (by simp [Lib.hasPrefix, List.isPrefixOf])]
        refine ⟨?_, fun h => ?_⟩
        · rw [e2, textScan_stable y _ _ t n (Nat.le_refl _) hs]
        · simp [bt] at h
  · rename_i hp
    rw [if_neg hp] at hx ⊢
    split at he
    · rename_i hn
      rw [if_pos hn] at hx ⊢
      have hlen := numTok_len (l := x ++ rest) (a := 0) (List.length_pos_iff.2 hne)
      have hnx : (numTok (x ++ rest) 0).length = x.length := by
        unfold numR at he hx
        split at he
        · simp [bad] at he
        · rename_i hz
          rw [if_neg hz] at hx
          cases hpz : Lib.parseIntB 64 (numTok (x ++ rest) 0) with
          | ok v => rw [hpz] at hx; simp only at hx; omega
          | _ => rw [hpz] at he; simp [bad] at he
      obtain ⟨c, x', rfl⟩ : ∃ c x', x = c :: x' := by
        cases x with
        | nil => rw [hnx] at hlen; simp at hlen; omega
        | cons c x' => exact ⟨c, x', rfl⟩
      have hd1 : digs (x' ++ rest) = x'.length := by
        rw [hnx] at hlen
        simp only [List.cons_append, Nat.zero_add, List.drop_succ_cons, List.drop_zero, List.length_cons] at hlen
        omega
      have hd2 := digs_app hd1 hc
      have ht : ∀ z : List UInt8, digs (x' ++ z) = x'.length → numTok (c :: x' ++ z) 0 = c :: x' := by
        intro z hz
        unfold numTok
        simp only [List.cons_append, Nat.zero_add, List.drop_succ_cons, List.drop_zero]
        rw [hz, Nat.add_comm, List.take_succ_cons, List.take_left]
      have hb0 : bt (c :: x' ++ y) 0 = bt (c :: x' ++ rest) 0 := by simp [bt]
      have hpos : 0 < digs (x' ++ rest) → digB (bt (c :: x' ++ y) 1) = true ∧ digB (bt (c :: x' ++ rest) 1) = true := by
        intro h
        cases x' with
        | nil => simp only [List.length_nil] at hd1; omega
        | cons d x'' =>
          have := dig_take (l := d :: x'' ++ rest) d (by rw [hd1]; simp)
          refine ⟨?_, ?_⟩
          · simpa [bt] using this
          · simpa [bt] using this
      have hnum : numAt (c :: x' ++ y) = true ∧ (bt (c :: x' ++ rest) 0 = 45 → 0 < digs (x' ++ rest)) := by
        unfold numAt at hn ⊢
        simp only [decide_eq_true_eq] at hn ⊢
        rcases hn with ⟨h1, h2⟩ | ⟨h1, h2, h3⟩
        · refine ⟨.inl ⟨by simp, by rw [hb0]; exact h2⟩, fun h => ?_⟩
          rw [h] at h2; simp [digB] at h2
        · have hpd : 0 < digs (x' ++ rest) := by
            have h4 := digs_step (l := c :: x' ++ rest) (k := 1) h1 h3
            simp only [List.cons_append, List.drop_succ_cons, List.drop_zero] at h4
            omega
          have := hpos hpd
          refine ⟨.inr ⟨?_, by rw [hb0]; exact h2, this.1⟩, fun _ => hpd⟩
          simp only [List.cons_append, List.length_cons, List.length_append]
          omega
      have hq : ¬ Lib.hasPrefix (c :: x' ++ y) [34] = true := by
        intro h
        refine hp ?_
        simp only [List.cons_append, Lib.hasPrefix, List.isPrefixOf, Bool.and_true] at h ⊢
        exact h
      rw [if_neg hq, if_pos hnum.1]
      refine ⟨?_, fun h => ?_⟩
      · unfold numR
        rw [ht y hd2, ht rest hd1]
      · have := hnum.2 h
        simp only [List.length_cons]
        omega
    · simp [bad] at he

theorem nameRun_app {x y rest : List UInt8} (hx : nameRun (x ++ rest) = x.length) (hc : (letB (bt y 0) || digB (bt y 0)) = true → (letB (bt rest 0) || digB (bt rest 0)) = true) : nameRun (x ++ y) = x.length := by
  have hall : ∀ c ∈ x, (letB c.toNat || digB c.toNat) = true := by
    have h : x = (x ++ rest).takeWhile fun c => letB c.toNat || digB c.toNat := by
      have h1 := List.takeWhile_prefix (fun c : UInt8 => letB c.toNat || digB c.toNat) (l := x ++ rest)
      have h2 : x <+: x ++ rest := List.prefix_append _ _
      exact List.IsPrefix.eq_of_length (List.prefix_of_prefix_length_le h2 h1 (by unfold nameRun at hx; omega)) (by unfold nameRun at hx; omega)
    intro c hcx
    rw [h] at hcx
    exact List.all_eq_true.1 (List.all_takeWhile (p := fun c : UInt8 => letB c.toNat || digB c.toNat) (l := x ++ rest)) c hcx
  have e : ∀ z : List UInt8, nameRun (x ++ z) = x.length + nameRun z := by
    intro z
    unfold nameRun
    rw [List.takeWhile_append_of_pos (by simpa using hall), List.length_append]
  rw [e] at hx
  rw [e]
  have h0 : nameRun rest = 0 := by omega
  have hr : (letB (bt rest 0) || digB (bt rest 0)) = false := by
    cases rest with
    | nil => decide
    | cons c r =>
      cases hd : (letB (bt (c :: r) 0) || digB (bt (c :: r) 0)) with
      | false => rfl
      | true =>
        exfalso
        have := nameRun_step (l := c :: r) (k := 0) (by simp) hd
        rw [List.drop_zero] at this
        omega
  have hy : (letB (bt y 0) || digB (bt y 0)) = false := by
    cases hd : (letB (bt y 0) || digB (bt y 0)) with
    | false => rfl
    | true => rw [hc hd] at hr; cases hr
  cases y with
  | nil => rfl
  | cons c r =>
    have := nameRun_stop (l := c :: r) (k := 0) (by simp) hy
    rw [List.drop_zero] at this
    omega

/-- What may stand behind a token without a change of it: what stood there, or a blank, or nothing. -/
def Behind (y rest : List UInt8) : Prop := bt y 0 = bt rest 0 ∨ bt y 0 = 32 ∨ y = []
theorem Behind.dig {y rest : List UInt8} (h : Behind y rest) : digB (bt y 0) = true → digB (bt rest 0) = true := by
  rcases h with h | h | h
  · rw [h]; exact id
  · rw [h]; intro g; simp [digB] at g
  · subst h; intro g; simp [digB, bt] at g
theorem Behind.nam {y rest : List UInt8} (h : Behind y rest) : (letB (bt y 0) || digB (bt y 0)) = true → (letB (bt rest 0) || digB (bt rest 0)) = true := by
  rcases h with h | h | h
  · rw [h]; exact id
  · rw [h]; intro g; simp [digB, letB] at g
  · subst h; intro g; simp [digB, letB, bt] at g

/-- A good token stays as it is, whatever stands behind it, as long as the byte next to it may. -/
theorem one_stable {r x rest y : List UInt8} {p : Int} (hr : r = x ++ rest) (hne : r ≠ []) (he : (oneS r p).2 = 0) (hx : (oneS r p).1.x = x) (hc : Behind y rest) : oneS (x ++ y) p = oneS r p := by
  obtain ⟨l1, l2, l3⟩ := one_len he hne
  rw [hx] at l1 l2 l3
  have b0 : bt (x ++ y) 0 = bt r 0 := by
    subst hr
    cases x with
    | nil => simp at l1
    | cons c x => simp [bt]
  have b1 : 2 ≤ x.length → bt (x ++ y) 1 = bt r 1 := by
    intro h
    subst hr
    match x, h with
    | a :: b :: x, _ => simp [bt]
  have b1' : x.length = 1 → bt (x ++ y) 1 = bt y 0 ∧ bt r 1 = bt rest 0 := by
    intro h
    subst hr
    match x, h with
    | [a], _ => simp [bt]
  unfold oneS at he hx ⊢
  rw [b0]
  split at he
  · rename_i h58
    rw [if_pos h58] at hx
    rw [if_pos h58, if_pos h58]
    split at he
    · rename_i h45
      rw [if_pos h45] at hx
      simp only at hx
      subst hx
      rw [b1 (by simp), if_pos h45]
    · simp at he
  · rename_i h58
    rw [if_neg h58] at hx
    rw [if_neg h58, if_neg h58]
    split at he
    · rename_i hq
      rw [if_pos hq] at hx ⊢
      obtain ⟨g, h1, h2⟩ := lit_len he hne
      unfold litS at hx ⊢
      rw [if_pos g] at hx ⊢
      simp only at hx
      have hxl : (scanR r 0).stop = x.length := by
        rw [← hx, List.length_take]; omega
      obtain ⟨hs, h45⟩ := scan_stable hr hne g hxl hc.dig
      have hq' : bt r 0 = 34 ∨ digB (bt r 0) = true ∨ bt r 0 = 45 ∧ digB (bt (x ++ y) 1) = true := by
        rcases hq with h | h | ⟨h, h'⟩
        · exact .inl h
        · exact .inr (.inl h)
        · exact .inr (.inr ⟨h, by rw [b1 (h45 h)]; exact h'⟩)
      rw [if_pos hq', hs, if_pos g]
      rw [hxl, Int.toNat_natCast, List.take_left]
      have : r.take x.length = x := by rw [hr, List.take_left]
      rw [this]
    · rename_i hq
      rw [if_neg hq] at hx ⊢
      split at he
      · rename_i hm
        rw [if_pos hm] at hx ⊢
        simp only at hx
        have hx1 : x.length = 1 := by
          have := List.length_pos_iff.2 hne
          rw [← hx, List.length_take]; omega
        have hq' : ¬ (bt r 0 = 34 ∨ digB (bt r 0) = true ∨ bt r 0 = 45 ∧ digB (bt (x ++ y) 1) = true) := by
          rintro (h | h | ⟨h, h'⟩)
          · exact hq (.inl h)
          · exact hq (.inr (.inl h))
          · refine hq (.inr (.inr ⟨h, ?_⟩))
            rw [(b1' hx1).1] at h'
            rw [(b1' hx1).2]
            exact hc.dig h'
        rw [if_neg hq']
        try rw [if_pos hm]
        have e1 : (x ++ y).take 1 = x := by rw [← hx1, List.take_left]
        rw [e1, hx]
      · rename_i hm
        rw [if_neg hm] at hx ⊢
        have h45 : ¬ bt r 0 = 45 := fun h => hm (.inl h)
        have hq' : ¬ (bt r 0 = 34 ∨ digB (bt r 0) = true ∨ bt r 0 = 45 ∧ digB (bt (x ++ y) 1) = true) := by
          rintro (h | h | ⟨h, h'⟩)
          · exact hq (.inl h)
          · exact hq (.inr (.inl h))
          · exact h45 h
        rw [if_neg hq', if_neg hm]
        split at he
        · rename_i ht
          rw [if_pos ht] at hx ⊢
          split at he
          · simp at he
          · rename_i h16
            rw [if_neg h16] at hx ⊢
            rw [if_pos ht]
            simp only at hx
            have hxl : nameRun (x ++ rest) = x.length := by
              rw [← hr, ← hx, List.length_take]
              have := nameRun_le r
              omega
            have hn := nameRun_app hxl hc.nam
            rw [hr] at h16
            rw [if_neg (by omega), hn, List.take_left, hr, hxl, List.take_left]
        · simp at he
end Go.Proofs.YthfibaajmbhdkaaDoor
