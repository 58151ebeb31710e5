/- The arena and the document's arena hold the same: plain laws. -/
import Derived.Test.YtppoakomeaamhaaCl0
import Derived.Test.YtppoakomeaamhaaRp6
namespace Go.Proofs.Ytppoakomeaamhaa
open Go.RowKit
set_option linter.unusedVariables false

theorem lastN_get {all : List One} {s : Int} : ∀ {n k : Nat}, lastN all s n = (k : Int) → ∃ o, all[k]? = some o ∧ o.slot = s ∧ k < n := by
  intro n
  induction n with
  | zero => intro k h; simp [lastN] at h
  | succ n ih =>
    intro k h
    unfold lastN at h
    cases hn : all[n]? with
    | none =>
      rw [hn] at h
      obtain ⟨o, h1, h2, h3⟩ := ih h
      exact ⟨o, h1, h2, by omega⟩
    | some o =>
      rw [hn] at h
      simp only at h
      by_cases hs : o.slot = s
      · rw [if_pos hs] at h
        have : n = k := by omega
        subst this
        exact ⟨o, hn, hs, by omega⟩
      · rw [if_neg hs] at h
        obtain ⟨o', h1, h2, h3⟩ := ih h
        exact ⟨o', h1, h2, by omega⟩
theorem lastN_max {all : List One} {s : Int} : ∀ {n j : Nat} {o : One}, all[j]? = some o → o.slot = s → j < n → (j : Int) ≤ lastN all s n := by
  intro n
  induction n with
  | zero => intro j o _ _ h; omega
  | succ n ih =>
    intro j o ho hs hj
    by_cases e : j = n
    · subst e
      rw [lastN_hit ho hs]
      omega
    · have := ih ho hs (show j < n by omega)
      unfold lastN
      split
      · split <;> omega
      · exact this
theorem lastN_none {all : List One} {s : Int} : ∀ {n : Nat}, (∀ (j : Nat) (o : One), all[j]? = some o → o.slot ≠ s) → lastN all s n = -1 := by
  intro n
  induction n with
  | zero => intro _; rfl
  | succ n ih =>
    intro h
    unfold lastN
    split
    · rename_i o ho
      rw [if_neg (h n o ho)]
      exact ih h
    · exact ih h
theorem lastL_get {all : List One} {s : Int} {k : Nat} (h : lastL all s = (k : Int)) : ∃ o, all[k]? = some o ∧ o.slot = s := by
  obtain ⟨o, h1, h2, _⟩ := lastN_get h
  exact ⟨o, h1, h2⟩
theorem lastL_nat {all : List One} {s : Int} {j : Nat} {o : One} (ho : all[j]? = some o) (hs : o.slot = s) : ∃ k : Nat, lastL all s = (k : Int) ∧ j ≤ k := by
  have := lastN_max ho hs (List.getElem?_eq_some_iff.1 ho).1
  exact ⟨(lastL all s).toNat, by unfold lastL at *; omega, by unfold lastL at *; omega⟩
theorem lastN_append {all : List One} {o : One} {s : Int} : ∀ {n : Nat}, n ≤ all.length → lastN (all ++ [o]) s n = lastN all s n := by
  intro n
  induction n with
  | zero => intro _; rfl
  | succ n ih =>
    intro hn
    unfold lastN
    rw [List.getElem?_append_left (by omega), ih (by omega)]
theorem lastL_append (all : List One) (o : One) (s : Int) : lastL (all ++ [o]) s = if o.slot = s then (all.length : Int) else lastL all s := by
  unfold lastL
  have e : (all ++ [o]).length = all.length + 1 := by simp
  have hg : (all ++ [o])[all.length]? = some o := by simp
  rw [e]
  by_cases hs : o.slot = s
  · rw [if_pos hs, lastN_hit hg hs]
  · rw [if_neg hs, lastN_miss hg hs, lastN_append (Nat.le_refl _)]
theorem lastN_congr {all all' : List One} {s : Int} (h : ∀ j : Nat, (all'[j]?).map One.slot = (all[j]?).map One.slot) : ∀ {n : Nat}, lastN all' s n = lastN all s n := by
  intro n
  induction n with
  | zero => rfl
  | succ n ih =>
    have := h n
    unfold lastN
    rw [ih]
    cases h1 : all[n]? with
    | none => rw [h1] at this; cases h2 : all'[n]? with
      | none => rfl
      | some o' => rw [h2] at this; simp at this
    | some o => rw [h1] at this; cases h2 : all'[n]? with
      | none => rw [h2] at this; simp at this
      | some o' => rw [h2] at this; simp at this; simp only [this]
theorem lastL_set {all : List One} {k : Nat} {o o' : One} (hk : all[k]? = some o) (he : o'.slot = o.slot) (s : Int) : lastL (all.set k o') s = lastL all s := by
  unfold lastL
  rw [List.length_set]
  refine lastN_congr (fun j => ?_)
  by_cases e : j = k
  · subst e
    rw [getElem?_set_self' _ _ _ _ hk, hk]
    simp [he]
  · rw [getElem?_set_ne' _ _ _ _ e]

/-- When the slot was given back last. -/
def backOf (all : List One) (i : Int) : Int := match all[(lastL all i).toNat]? with
  | some o => o.back
  | none => 0

/-- The two arenas hold the same. -/
structure Sim (sl : List Slot) (fr : List Int) (all : List One) (clock : Int) : Prop where
  ent : ∀ (k : Nat) (o : One), all[k]? = some o → ∃ (i : Nat) (s : Slot), o.slot = i ∧ sl[i]? = some s ∧ 1 ≤ o.gen ∧ o.gen ≤ s.gen ∧ 0 ≤ o.back ∧ o.back ≤ clock ∧ (o.alive = true → lastL all i = (k : Int))
  las : ∀ (i : Nat) (s : Slot), sl[i]? = some s → ∃ (k : Nat) (o : One), lastL all i = (k : Int) ∧ all[k]? = some o ∧ o.slot = i ∧ o.gen = s.gen ∧ o.alive = s.alive ∧ (s.alive = true → s.thing = .int .i64 o.thing)
  ord : fr.Pairwise (fun a b => backOf all a < backOf all b)
  clk : 0 ≤ clock

theorem sim_empty : Sim [] [] [] 0 := ⟨by simp, by simp, by simp, by omega⟩

section
variable {most gens clock : Int} {sl : List Slot} {fr : List Int} {live : Int} {all : List One}

theorem Sim.small (h : Sim sl fr all clock) (hi : AInv most gens sl fr live) (hc : clock ≤ 1000000000000) : Small all := by
  intro k o ho
  obtain ⟨i, s, h1, h2, h3, h4, h5, h6, _⟩ := h.ent k o ho
  have h7 := (List.getElem?_eq_some_iff.1 h2).1
  have h8 := hi.len
  have h9 := hi.m2
  have h10 := (hi.gen i s h2).2
  have h11 := hi.g2
  exact ⟨by omega, by omega, by omega, by omega, h5, by omega⟩

/-- Where the document finds a reference. -/
theorem Sim.find (h : Sim sl fr all clock) {s g r : Int} (hf : IsFind all s g r) :
    (hit sl s g ∧ ∃ (k i : Nat) (t : Slot) (o : One), r = k ∧ s = i ∧ sl[i]? = some t ∧ t.alive = true ∧ t.gen = g ∧ all[k]? = some o ∧ o.slot = i ∧ o.gen = g ∧ lastL all i = (k : Int) ∧ t.thing = .int .i64 o.thing) ∨ (¬ hit sl s g ∧ r = -1) := by
  rcases hf with ⟨hr, hn⟩ | ⟨k, o, hr, ho, ⟨h1, h2, h3⟩, _⟩
  · right
    refine ⟨?_, hr⟩
    rintro ⟨i, t, he, ht, ha, hg⟩
    obtain ⟨k, o, e1, e2, e3, e4, e5, _⟩ := h.las i t ht
    exact hn k o e2 ⟨by rw [e5]; exact ha, by omega, by rw [e4]; exact hg⟩
  · left
    obtain ⟨i, t, e1, e2, _, _, _, _, e7⟩ := h.ent k o ho
    have hk := e7 h1
    obtain ⟨k', o', f1, f2, f3, f4, f5, f6⟩ := h.las i t e2
    have hkk : k' = k := by omega
    subst hkk
    rw [ho] at f2
    simp at f2
    subst f2
    have hta : t.alive = true := by rw [← f5]; exact h1
    have htg : t.gen = g := by rw [← f4]; exact h3
    exact ⟨⟨i, t, by omega, e2, hta, htg⟩, k', i, t, o, hr, by omega, e2, hta, htg, ho, e1, h3, hk, f6 hta⟩

theorem Sim.high (h : Sim sl fr all clock) : highN all all.length = (sl.length : Int) - 1 := by
  have h1 : ∀ n, highN all n ≤ (sl.length : Int) - 1 := by
    intro n
    induction n with
    | zero => simp [highN]; omega
    | succ n ih =>
      unfold highN
      cases hn : all[n]? with
      | none => exact ih
      | some o =>
        obtain ⟨i, s, e1, e2, _⟩ := h.ent n o hn
        have := (List.getElem?_eq_some_iff.1 e2).1
        simp only
        split <;> omega
  have h2 : ∀ n, -1 ≤ highN all n := by
    intro n
    induction n with
    | zero => simp [highN]
    | succ n ih =>
      unfold highN
      split
      · split <;> omega
      · exact ih
  have h3 : ∀ n (j : Nat) (o : One), j < n → all[j]? = some o → o.slot ≤ highN all n := by
    intro n
    induction n with
    | zero => intro j o hj; omega
    | succ n ih =>
      intro j o hj ho
      by_cases e : j = n
      · subst e
        rw [highN_succ ho]
        split <;> omega
      · have := ih j o (by omega) ho
        unfold highN
        split
        · split <;> omega
        · exact this
  rcases Nat.eq_zero_or_pos sl.length with h0 | hp
  · have := h1 all.length
    have := h2 all.length
    omega
  · have hs : sl[sl.length - 1]? = some sl[sl.length - 1] := List.getElem?_eq_getElem (by omega)
    obtain ⟨k, o, e1, e2, e3, _⟩ := h.las _ _ hs
    have := h3 all.length k o (List.getElem?_eq_some_iff.1 e2).1 e2
    have := h1 all.length
    omega

/-- The entries that may be taken once more are the free slots' last ones. -/
theorem Sim.candF (h : Sim sl fr all clock) (hi : AInv most gens sl fr live) {k : Nat} {o : One} (ho : all[k]? = some o) : cand all gens k o ↔ (o.slot ∈ fr ∧ lastL all o.slot = (k : Int)) := by
  obtain ⟨i, s, e1, e2, _⟩ := h.ent k o ho
  constructor
  · rintro ⟨c1, c2, c3⟩
    refine ⟨?_, c3⟩
    obtain ⟨k', o', f1, f2, f3, f4, f5, _⟩ := h.las i s e2
    rw [e1] at c3
    have hkk : k' = k := by omega
    subst hkk
    rw [ho] at f2
    simp at f2
    subst f2
    rw [e1]
    exact hi.all i s e2 (by rw [← f5]; exact c1) (by rw [← f4]; exact c2)
  · rintro ⟨c1, c2⟩
    obtain ⟨i', s', g1, g2, g3, g4⟩ := hi.frd _ c1
    have hii : i' = i := by omega
    subst hii
    rw [e2] at g2
    simp at g2
    subst g2
    obtain ⟨k', o', f1, f2, f3, f4, f5, _⟩ := h.las i' s e2
    have hkk : k' = k := by rw [e1] at c2; omega
    subst hkk
    rw [ho] at f2
    simp at f2
    subst f2
    exact ⟨by rw [f5]; exact g3, by rw [f4]; exact g4, c2⟩
theorem Sim.back (h : Sim sl fr all clock) {k : Nat} {o : One} (ho : all[k]? = some o) (hl : lastL all o.slot = (k : Int)) : backOf all o.slot = o.back := by
  unfold backOf
  rw [hl, Int.toNat_natCast, ho]

theorem bestN_spec (h : Sim sl fr all clock) : ∀ n, ((bestN all gens n = (-1, -1) ∧ ∀ (j : Nat) (o : One), j < n → all[j]? = some o → ¬ cand all gens j o) ∨
    (∃ (j : Nat) (o : One), all[j]? = some o ∧ cand all gens j o ∧ bestN all gens n = (o.slot, o.back) ∧ ∀ (j' : Nat) (o' : One), j' < n → all[j']? = some o' → cand all gens j' o' → o'.back ≤ o.back)) := by
  intro n
  induction n with
  | zero => exact .inl ⟨rfl, fun j o hj => by omega⟩
  | succ n ih =>
    cases hn : all[n]? with
    | none =>
      have e : bestN all gens (n + 1) = bestN all gens n := by simp [bestN, hn]
      rw [e]
      rcases ih with ⟨h1, h2⟩ | ⟨j, o, h1, h2, h3, h4⟩
      · refine .inl ⟨h1, fun j o hj ho => ?_⟩
        by_cases e : j = n
        · subst e; rw [hn] at ho; cases ho
        · exact h2 j o (by omega) ho
      · refine .inr ⟨j, o, h1, h2, h3, fun j' o' hj ho => ?_⟩
        by_cases e : j' = n
        · subst e; rw [hn] at ho; cases ho
        · exact h4 j' o' (by omega) ho
    | some o =>
      obtain ⟨_, _, _, _, _, _, hb, _⟩ := h.ent n o hn
      by_cases hc : cand all gens n o ∧ (bestN all gens n).2 < o.back
      · rw [bestN_yes hn hc.1 hc.2]
        refine .inr ⟨n, o, hn, hc.1, rfl, fun j' o' hj ho hc' => ?_⟩
        by_cases e : j' = n
        · subst e; rw [hn] at ho; simp at ho; subst ho; omega
        · rcases ih with ⟨h1, h2⟩ | ⟨j, q, h1, h2, h3, h4⟩
          · exact absurd hc' (h2 j' o' (by omega) ho)
          · have := h4 j' o' (by omega) ho hc'
            have hlt := hc.2
            rw [h3] at hlt
            simp at hlt
            omega
      · rw [bestN_no hn hc]
        rcases ih with ⟨h1, h2⟩ | ⟨j, q, h1, h2, h3, h4⟩
        · refine .inl ⟨h1, fun j o' hj ho => ?_⟩
          by_cases e : j = n
          · subst e
            rw [hn] at ho
            simp at ho
            subst ho
            intro hcn
            apply hc
            rw [h1]
            exact ⟨hcn, by simp; omega⟩
          · exact h2 j o' (by omega) ho
        · refine .inr ⟨j, q, h1, h2, h3, fun j' o' hj ho hc' => ?_⟩
          by_cases e : j' = n
          · subst e
            rw [hn] at ho
            simp at ho
            subst ho
            have : ¬ (bestN all gens j').2 < o.back := fun hlt => hc ⟨hc', hlt⟩
            rw [h3] at this
            simp at this
            omega
          · exact h4 j' o' (by omega) ho hc'

theorem Sim.pick_none (h : Sim sl [] all clock) (hi : AInv most gens sl [] live) : pickL all most gens = if (sl.length : Int) < most then (sl.length : Int) else -1 := by
  have hb : bestN all gens all.length = (-1, -1) := by
    rcases bestN_spec (gens := gens) h all.length with ⟨h1, _⟩ | ⟨j, o, h1, h2, _⟩
    · exact h1
    · have := ((h.candF hi h1).1 h2).1
      simp at this
  unfold pickL
  rw [hb, h.high]
  by_cases hl : (sl.length : Int) < most
  · rw [if_pos ⟨by simp, by omega⟩, if_pos hl]
    omega
  · rw [if_neg (fun hx => hl (by omega)), if_neg hl]
theorem Sim.pick_free {x : Int} (h : Sim sl (fr ++ [x]) all clock) (hi : AInv most gens sl (fr ++ [x]) live) : pickL all most gens = x := by
  obtain ⟨i, s, rfl, e2, e3, e4⟩ := hi.frd x (by simp)
  obtain ⟨k, o, f1, f2, f3, f4, f5, _⟩ := h.las i s e2
  have hc : cand all gens k o := (h.candF hi f2).2 ⟨by rw [f3]; simp, by rw [f3]; exact f1⟩
  rcases bestN_spec (gens := gens) h all.length with ⟨h1, h2⟩ | ⟨j, q, h1, h2, h3, h4⟩
  · exact absurd hc (h2 k o (List.getElem?_eq_some_iff.1 f2).1 f2)
  · have hle := h4 k o (List.getElem?_eq_some_iff.1 f2).1 f2 hc
    obtain ⟨m1, m2⟩ := (h.candF hi h1).1 h2
    have hqx : q.slot = (i : Int) := by
      simp at m1
      rcases m1 with m1 | m1
      · exfalso
        have hp := (List.pairwise_append.1 h.ord).2.2 q.slot m1 (i : Int) (by simp)
        rw [h.back h1 m2] at hp
        have hb2 : backOf all (i : Int) = o.back := by
          have := h.back f2 (by rw [f3]; exact f1)
          rwa [f3] at this
        rw [hb2] at hp
        omega
      · exact m1
    have hq0 : 0 ≤ q.slot := by omega
    unfold pickL
    rw [h3]
    rw [if_neg (fun hx => by have := hx.1; simp at this; omega)]
    exact hqx
end
end Go.Proofs.Ytppoakomeaamhaa
