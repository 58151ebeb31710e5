/- The arena and the document's arena: counts, walks, steps: plain laws. -/
import Derived.Test.YtppoakomeaamhaaSm0
namespace Go.Proofs.Ytppoakomeaamhaa
open Go.RowKit
set_option linter.unusedVariables false

theorem nodup_le : ∀ (l1 l2 : List Int), l1.Nodup → (∀ x ∈ l1, x ∈ l2) → l1.length ≤ l2.length := by
  intro l1
  induction l1 with
  | nil => intro l2 _ _; simp
  | cons a l1 ih =>
    intro l2 hn h
    rw [List.nodup_cons] at hn
    have ha := h a (by simp)
    have := ih (l2.erase a) hn.2 (fun x hx => by
      have hne : x ≠ a := fun e => hn.1 (e ▸ hx)
      exact (List.mem_erase_of_ne hne).2 (h x (by simp [hx])))
    rw [List.length_erase_of_mem ha] at this
    have := List.length_pos_of_mem ha
    simp
    omega

def candS (all : List One) (gens : Int) : Nat → List Int
  | 0 => []
  | k + 1 => candS all gens k ++ (match all[k]? with | some o => if cand all gens k o then [o.slot] else [] | none => [])
theorem candS_len (all : List One) (gens : Int) : ∀ k, (candS all gens k).length = freeN all gens k := by
  intro k
  induction k with
  | zero => rfl
  | succ k ih =>
    unfold candS freeN
    cases all[k]? with
    | none => simpa using ih
    | some o =>
      simp only
      split <;> simp [ih]
theorem candS_mem (all : List One) (gens x : Int) : ∀ k, x ∈ candS all gens k ↔ ∃ (j : Nat) (o : One), j < k ∧ all[j]? = some o ∧ cand all gens j o ∧ o.slot = x := by
  intro k
  induction k with
  | zero => simp [candS]
  | succ k ih =>
    unfold candS
    rw [List.mem_append, ih]
    constructor
    · rintro (⟨j, o, h1, h2, h3, h4⟩ | h)
      · exact ⟨j, o, by omega, h2, h3, h4⟩
      · cases hk : all[k]? with
        | none => rw [hk] at h; simp at h
        | some o =>
          rw [hk] at h
          simp only at h
          split at h
          · rename_i hc
            simp at h
            exact ⟨k, o, by omega, hk, hc, h.symm⟩
          · simp at h
    · rintro ⟨j, o, h1, h2, h3, h4⟩
      by_cases e : j = k
      · subst e
        right
        rw [h2]
        simp only
        rw [if_pos h3]
        simp [h4]
      · exact .inl ⟨j, o, by omega, h2, h3, h4⟩
theorem candS_nodup (all : List One) (gens : Int) : ∀ k, (candS all gens k).Nodup := by
  intro k
  induction k with
  | zero => simp [candS]
  | succ k ih =>
    unfold candS
    cases hk : all[k]? with
    | none => simpa using ih
    | some o =>
      simp only
      split
      · rename_i hc
        rw [List.nodup_append]
        refine ⟨ih, by simp, ?_⟩
        rintro a ha b hb rfl
        simp at hb
        subst hb
        obtain ⟨j, o', h1, h2, h3, h4⟩ := (candS_mem all gens _ k).1 ha
        have e1 := h3.2.2
        have e2 := hc.2.2
        rw [h4] at e1
        omega
      · simpa using ih

def aliveS (all : List One) : Nat → List Int
  | 0 => []
  | k + 1 => aliveS all k ++ (match all[k]? with | some o => if o.alive = true then [o.slot] else [] | none => [])
theorem aliveS_len (all : List One) : ∀ k, (aliveS all k).length = aliveN all k := by
  intro k
  induction k with
  | zero => rfl
  | succ k ih =>
    unfold aliveS aliveN
    cases all[k]? with
    | none => simpa using ih
    | some o =>
      simp only
      split <;> simp [ih]
theorem aliveS_mem (all : List One) (x : Int) : ∀ k, x ∈ aliveS all k ↔ ∃ (j : Nat) (o : One), j < k ∧ all[j]? = some o ∧ o.alive = true ∧ o.slot = x := by
  intro k
  induction k with
  | zero => simp [aliveS]
  | succ k ih =>
    unfold aliveS
    rw [List.mem_append, ih]
    constructor
    · rintro (⟨j, o, h1, h2, h3, h4⟩ | h)
      · exact ⟨j, o, by omega, h2, h3, h4⟩
      · cases hk : all[k]? with
        | none => rw [hk] at h; simp at h
        | some o =>
          rw [hk] at h
          simp only at h
          split at h
          · rename_i hc
            simp at h
            exact ⟨k, o, by omega, hk, hc, h.symm⟩
          · simp at h
    · rintro ⟨j, o, h1, h2, h3, h4⟩
      by_cases e : j = k
      · subst e
        right
        rw [h2]
        simp only
        rw [if_pos h3]
        simp [h4]
      · exact .inl ⟨j, o, by omega, h2, h3, h4⟩

theorem told_mem (sl : List Slot) (x : Nat × Int × Int) : ∀ n, x ∈ told numV sl n ↔ ∃ s, x.1 < n ∧ sl[x.1]? = some s ∧ s.alive = true ∧ x.2.1 = s.gen ∧ x.2.2 = numV s.thing := by
  intro n
  induction n with
  | zero => simp [told]
  | succ n ih =>
    unfold told
    rw [List.mem_append, ih]
    constructor
    · rintro (⟨s, h1, h2, h3, h4, h5⟩ | h)
      · exact ⟨s, by omega, h2, h3, h4, h5⟩
      · cases hn : sl[n]? with
        | none => rw [hn] at h; simp at h
        | some s =>
          rw [hn] at h
          simp only at h
          split at h
          · rename_i ha
            simp at h
            subst h
            exact ⟨s, by simp, hn, ha, rfl, rfl⟩
          · simp at h
    · rintro ⟨s, h1, h2, h3, h4, h5⟩
      by_cases e : x.1 = n
      · right
        rw [← e, h2]
        simp only
        rw [if_pos h3]
        obtain ⟨a, b, c⟩ := x
        simp at h4 h5 ⊢
        exact ⟨h4, h5⟩
      · exact .inl ⟨s, by omega, h2, h3, h4, h5⟩
theorem told_sorted (sl : List Slot) : ∀ n, (told numV sl n).Pairwise (fun a b => a.1 < b.1) := by
  intro n
  induction n with
  | zero => simp [told]
  | succ n ih =>
    unfold told
    rw [List.pairwise_append]
    refine ⟨ih, ?_, ?_⟩
    · cases sl[n]? with
      | none => simp
      | some s => simp only; split <;> simp
    · intro a ha b hb
      obtain ⟨s, h1, _⟩ := (told_mem sl a n).1 ha
      have : b.1 = n := by
        cases hn : sl[n]? with
        | none => rw [hn] at hb; simp at hb
        | some s =>
          rw [hn] at hb
          simp only at hb
          split at hb
          · simp at hb; rw [hb]
          · simp at hb
      omega
theorem told_count (sl : List Slot) : ∀ n, (told numV sl n).length = (sl.take n).countP (·.alive) := by
  intro n
  induction n with
  | zero => simp [told]
  | succ n ih =>
    unfold told
    rw [List.length_append, ih, List.take_add_one, List.countP_append]
    cases sl[n]? with
    | none => simp
    | some s =>
      cases hs : s.alive <;> simp [hs]

/-- Two lists in strict order with the same members are equal. -/
theorem sorted_eq : ∀ (a b : List (Int × Int × Int)), a.Pairwise (fun x y => x.1 < y.1) → b.Pairwise (fun x y => x.1 < y.1) → (∀ x, x ∈ a ↔ x ∈ b) → a = b := by
  intro a
  induction a with
  | nil =>
    intro b _ _ h
    cases b with
    | nil => rfl
    | cons y b => have := (h y).2 (by simp); simp at this
  | cons x a ih =>
    intro b ha hb h
    cases b with
    | nil => have := (h x).1 (by simp); simp at this
    | cons y b =>
      rw [List.pairwise_cons] at ha hb
      have hxy : x = y := by
        have h1 := (h x).1 (by simp)
        have h2 := (h y).2 (by simp)
        simp at h1 h2
        rcases h1 with h1 | h1
        · exact h1
        · rcases h2 with h2 | h2
          · exact h2.symm
          · have := ha.1 y h2
            have := hb.1 x h1
            omega
      subst hxy
      congr 1
      refine ih b ha.2 hb.2 (fun z => ?_)
      constructor
      · intro hz
        have h1 := (h z).1 (by simp [hz])
        simp at h1
        rcases h1 with rfl | h1
        · have := ha.1 z hz; omega
        · exact h1
      · intro hz
        have h1 := (h z).2 (by simp [hz])
        simp at h1
        rcases h1 with rfl | h1
        · have := hb.1 z hz; omega
        · exact h1

section
variable {most gens clock : Int} {sl : List Slot} {fr : List Int} {live : Int} {all : List One}

theorem Sim.freeCount (h : Sim sl fr all clock) (hi : AInv most gens sl fr live) : freeN all gens all.length = fr.length := by
  rw [← candS_len]
  have hm : ∀ x, x ∈ candS all gens all.length ↔ x ∈ fr := by
    intro x
    rw [candS_mem]
    constructor
    · rintro ⟨j, o, h1, h2, h3, rfl⟩
      exact ((h.candF hi h2).1 h3).1
    · intro hx
      obtain ⟨i, s, rfl, e2, e3, e4⟩ := hi.frd x hx
      obtain ⟨k, o, f1, f2, f3, _⟩ := h.las i s e2
      exact ⟨k, o, (List.getElem?_eq_some_iff.1 f2).1, f2, (h.candF hi f2).2 ⟨by rw [f3]; exact hx, by rw [f3]; exact f1⟩, f3⟩
  have h1 := nodup_le _ _ (candS_nodup all gens all.length) (fun x hx => (hm x).1 hx)
  have h2 := nodup_le _ _ hi.frn (fun x hx => (hm x).2 hx)
  omega
theorem Sim.roomEq (h : Sim sl fr all clock) (hi : AInv most gens sl fr live) : most - 1 - highN all all.length + ((freeN all gens all.length : Nat) : Int) = most - sl.length + fr.length := by
  rw [h.high, h.freeCount hi]
  omega
theorem Sim.aliveOne (h : Sim sl fr all clock) {j k : Nat} {o o' : One} (hj : all[j]? = some o) (hk : all[k]? = some o') (ha : o.alive = true) (ha' : o'.alive = true) (hs : o.slot = o'.slot) : j = k := by
  obtain ⟨i, s, e1, _, _, _, _, _, e7⟩ := h.ent j o hj
  obtain ⟨i', s', f1, _, _, _, _, _, f7⟩ := h.ent k o' hk
  have : i = i' := by omega
  subst this
  have := e7 ha
  have := f7 ha'
  omega
theorem Sim.aliveCount (h : Sim sl fr all clock) (hi : AInv most gens sl fr live) : ((aliveN all all.length : Nat) : Int) = live := by
  have hn : ∀ n, (aliveS all n).Nodup := by
    intro n
    induction n with
    | zero => simp [aliveS]
    | succ n ih =>
      unfold aliveS
      cases hk : all[n]? with
      | none => simpa using ih
      | some o =>
        simp only
        split
        · rename_i hc
          rw [List.nodup_append]
          refine ⟨ih, by simp, ?_⟩
          rintro a ha b hb rfl
          simp at hb
          subst hb
          obtain ⟨j, o', h1, h2, h3, h4⟩ := (aliveS_mem all _ n).1 ha
          have := h.aliveOne h2 hk h3 hc h4
          omega
        · simpa using ih
  have hT : ((told numV sl sl.length).map fun t => (t.1 : Int)).Nodup := by
    have := told_sorted sl sl.length
    rw [List.Nodup, List.pairwise_map]
    exact this.imp (fun h => by omega)
  have hm : ∀ x, x ∈ aliveS all all.length ↔ x ∈ (told numV sl sl.length).map fun t => (t.1 : Int) := by
    intro x
    rw [aliveS_mem, List.mem_map]
    constructor
    · rintro ⟨j, o, h1, h2, h3, rfl⟩
      obtain ⟨i, s, e1, e2, _, _, _, _, e7⟩ := h.ent j o h2
      obtain ⟨k', o', f1, f2, f3, f4, f5, _⟩ := h.las i s e2
      have := e7 h3
      have hkk : k' = j := by omega
      subst hkk
      rw [h2] at f2
      simp at f2
      subst f2
      exact ⟨(i, s.gen, numV s.thing), (told_mem sl _ _).2 ⟨s, (List.getElem?_eq_some_iff.1 e2).1, e2, by rw [← f5]; exact h3, rfl, rfl⟩, e1.symm⟩
    · rintro ⟨t, ht, rfl⟩
      obtain ⟨s, h1, h2, h3, _, _⟩ := (told_mem sl t _).1 ht
      obtain ⟨k', o', f1, f2, f3, f4, f5, _⟩ := h.las t.1 s h2
      exact ⟨k', o', (List.getElem?_eq_some_iff.1 f2).1, f2, by rw [f5]; exact h3, f3⟩
  have h1 := nodup_le _ _ (hn all.length) (fun x hx => (hm x).1 hx)
  have h2 := nodup_le _ _ hT (fun x hx => (hm x).2 hx)
  rw [aliveS_len, List.length_map, told_count, List.take_length] at h1
  rw [aliveS_len, List.length_map, told_count, List.take_length] at h2
  have := hi.cnt
  omega

theorem live_spec (h : Sim sl fr all clock) {k : Nat} {x : List One} (hl : LiveR all k x) : x.Pairwise (fun a b => a.slot < b.slot) ∧ ∀ o, o ∈ x ↔ ∃ j, j < k ∧ all[j]? = some o ∧ o.alive = true := by
  induction hl with
  | zero => simp
  | @dead k l o h1 h2 h3 ih =>
    refine ⟨ih.1, fun q => ?_⟩
    rw [ih.2 q]
    constructor
    · rintro ⟨j, a, b, c⟩
      exact ⟨j, by omega, b, c⟩
    · rintro ⟨j, a, b, c⟩
      by_cases e : j = k
      · subst e
        rw [h2] at b
        simp at b
        subst b
        rw [h3] at c
        cases c
      · exact ⟨j, by omega, b, c⟩
  | @put k l x o h1 h2 h3 hi ih =>
    obtain ⟨l1, l2, rfl, rfl, hg, hlast⟩ := hi
    have hne : ∀ q ∈ l1 ++ l2, q.slot ≠ o.slot := by
      intro q hq hs
      obtain ⟨j, a, b, c⟩ := (ih.2 q).1 hq
      have := h.aliveOne b h2 c h3 hs
      omega
    have hs := ih.1
    rw [List.pairwise_append] at hs
    refine ⟨?_, fun q => ?_⟩
    · rw [List.pairwise_append]
      refine ⟨hs.1, List.pairwise_cons.2 ⟨hg, hs.2.1⟩, ?_⟩
      intro a ha b hb
      simp at hb
      rcases hb with rfl | hb
      · rcases List.eq_nil_or_concat l1 with rfl | ⟨l0, p, rfl⟩
        · simp at ha
        · rw [List.concat_eq_append] at ha hlast hne hs
          have hp := hlast p (by simp)
          simp at ha
          rcases ha with ha | rfl
          · have := (List.pairwise_append.1 hs.1).2.2 a ha p (by simp)
            omega
          · have := hne a (by simp)
            omega
      · exact hs.2.2 a ha b hb
    · rw [show (q ∈ l1 ++ o :: l2) ↔ (q = o ∨ q ∈ l1 ++ l2) by simp; constructor <;> rintro (h | h | h) <;> simp [h], ih.2 q]
      constructor
      · rintro (rfl | ⟨j, a, b, c⟩)
        · exact ⟨k, by omega, h2, h3⟩
        · exact ⟨j, by omega, b, c⟩
      · rintro ⟨j, a, b, c⟩
        by_cases e : j = k
        · subst e
          rw [h2] at b
          simp at b
          exact .inl b.symm
        · exact .inr ⟨j, by omega, b, c⟩

/-- What the document tells is what the arena tells. -/
theorem Sim.toldEq (h : Sim sl fr all clock) (hu : Nums sl) {x : List One} (hl : LiveR all all.length x) : x.map (fun o => (o.slot, o.gen, o.thing)) = (told numV sl sl.length).map fun t => ((t.1 : Int), t.2.1, t.2.2) := by
  obtain ⟨h1, h2⟩ := live_spec h hl
  refine sorted_eq _ _ (List.pairwise_map.2 h1) (List.pairwise_map.2 ((told_sorted sl _).imp (fun h => by simp; omega))) (fun z => ?_)
  rw [List.mem_map, List.mem_map]
  constructor
  · rintro ⟨o, ho, rfl⟩
    obtain ⟨j, hj, e, ha⟩ := (h2 o).1 ho
    obtain ⟨i, s, e1, e2, _, _, _, _, e7⟩ := h.ent j o e
    obtain ⟨k', o', f1, f2, f3, f4, f5, f6⟩ := h.las i s e2
    have := e7 ha
    have hkk : k' = j := by omega
    subst hkk
    rw [e] at f2
    simp at f2
    subst f2
    have hsa : s.alive = true := by rw [← f5]; exact ha
    refine ⟨(i, s.gen, numV s.thing), (told_mem sl _ _).2 ⟨s, (List.getElem?_eq_some_iff.1 e2).1, e2, hsa, rfl, rfl⟩, ?_⟩
    simp only [e1, f4]
    rw [f6 hsa]
    rfl
  · rintro ⟨t, ht, rfl⟩
    obtain ⟨s, g1, g2, g3, g4, g5⟩ := (told_mem sl t _).1 ht
    obtain ⟨k', o', f1, f2, f3, f4, f5, f6⟩ := h.las t.1 s g2
    refine ⟨o', (h2 o').2 ⟨k', (List.getElem?_eq_some_iff.1 f2).1, f2, by rw [f5]; exact g3⟩, ?_⟩
    rw [f3, f4, g4, g5, f6 g3]
    rfl
end
end Go.Proofs.Ytppoakomeaamhaa
