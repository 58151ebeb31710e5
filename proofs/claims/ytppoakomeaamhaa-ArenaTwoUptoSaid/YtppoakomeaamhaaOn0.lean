/- The arena between two calls, and what ArenaOnce remembers: plain laws, no program in sight. -/
import Derived.Test.YtppoakomeaamhaaArF
namespace Go.Proofs.Ytppoakomeaamhaa
open Go.RowKit

/-- What holds of an arena between two calls. -/
structure AInv (most gens : Int) (sl : List Slot) (fr : List Int) (live : Int) : Prop where
  m1 : 1 ≤ most
  m2 : most ≤ 1048576
  g1 : 1 ≤ gens
  g2 : gens ≤ 1073741824
  len : (sl.length : Int) ≤ most
  gen : ∀ (i : Nat) (s : Slot), sl[i]? = some s → 1 ≤ s.gen ∧ s.gen ≤ gens
  frd : ∀ x ∈ fr, ∃ (i : Nat) (s : Slot), x = i ∧ sl[i]? = some s ∧ s.alive = false ∧ s.gen < gens
  frn : fr.Nodup
  all : ∀ (i : Nat) (s : Slot), sl[i]? = some s → s.alive = false → s.gen < gens → (i : Int) ∈ fr
  cnt : live = ((sl.countP (·.alive) : Nat) : Int)

theorem inv_empty (s g : Int) (h1 : 1 ≤ s) (h2 : s ≤ 1048576) (h3 : 1 ≤ g) (h4 : g ≤ 1073741824) : AInv s g [] [] 0 :=
  ⟨h1, h2, h3, h4, by simp; omega, by simp, by simp, by simp, by simp, by simp⟩

theorem dead_count : ∀ (sl : List Slot) (l : List Int) (off : Nat), l.Nodup → (∀ x ∈ l, ∃ (i : Nat) (s : Slot), x = ((off + i : Nat) : Int) ∧ sl[i]? = some s ∧ s.alive = false) → l.length + sl.countP (·.alive) ≤ sl.length := by
  intro sl
  induction sl with
  | nil =>
    intro l off hn h
    cases l with
    | nil => simp
    | cons x l =>
      obtain ⟨i, s, _, hs, _⟩ := h x (by simp)
      simp at hs
  | cons a sl ih =>
    intro l off hn h
    cases ha : a.alive with
    | true =>
      have := ih l (off + 1) hn (by
        intro x hx
        obtain ⟨i, s, he, hs, hd⟩ := h x hx
        cases i with
        | zero => simp at hs; subst hs; rw [ha] at hd; cases hd
        | succ i => exact ⟨i, s, by rw [he]; congr 1; omega, by simpa using hs, hd⟩)
      simp [ha]
      omega
    | false =>
      have := ih (l.erase (off : Int)) (off + 1) (hn.erase _) (by
        intro x hx
        obtain ⟨hne, hx⟩ := hn.mem_erase_iff.1 hx
        obtain ⟨i, s, he, hs, hd⟩ := h x hx
        cases i with
        | zero => exact absurd (by simpa using he) hne
        | succ i => exact ⟨i, s, by rw [he]; congr 1; omega, by simpa using hs, hd⟩)
      have hl : l.length ≤ (l.erase (off : Int)).length + 1 := by
        rw [List.length_erase]; split <;> omega
      simp [ha]
      omega

theorem AInv.count {most gens : Int} {sl : List Slot} {fr : List Int} {live : Int} (h : AInv most gens sl fr live) : 0 ≤ live ∧ (fr.length : Int) + live ≤ sl.length := by
  have h1 := h.cnt
  have h2 := dead_count sl fr 0 h.frn (fun x hx => by obtain ⟨i, s, he, hs, hd, _⟩ := h.frd x hx; exact ⟨i, s, by rw [he]; congr 1; omega, hs, hd⟩)
  omega

theorem getElem?_set_ne' {α : Type} (l : List α) (i j : Nat) (a : α) (h : j ≠ i) : (l.set i a)[j]? = l[j]? := by
  rw [List.getElem?_set]; simp [Ne.symm h]

theorem getElem?_set_self' {α : Type} (l : List α) (i : Nat) (a x : α) (h : l[i]? = some x) : (l.set i a)[i]? = some a := by
  have := (List.getElem?_eq_some_iff.1 h).1
  rw [List.getElem?_set]; simp [this]

/-- Who was taken: slot i, in generation g. -/
structure Taken (sl sl' : List Slot) (i : Nat) (g : Int) (v : Value) : Prop where
  now : sl'[i]? = some ⟨g, true, v⟩
  oth : ∀ j, j ≠ i → sl'[j]? = sl[j]?
  old : ∀ s, sl[i]? = some s → s.alive = false ∧ s.gen + 1 = g
  gen : 1 ≤ g

theorem taken_new (sl : List Slot) (v : Value) : Taken sl (sl ++ [⟨1, true, v⟩]) sl.length 1 v := by
  refine ⟨by simp, fun j hj => ?_, fun s hs => by simp at hs, by omega⟩
  rcases Nat.lt_or_ge j sl.length with h | h
  · rw [List.getElem?_append_left h]
  · rw [List.getElem?_eq_none (by simp; omega), List.getElem?_eq_none (by omega)]

theorem inv_new {most gens : Int} {sl : List Slot} {live : Int} (h : AInv most gens sl [] live) (hr : (sl.length : Int) < most) (v : Value) : AInv most gens (sl ++ [⟨1, true, v⟩]) [] (live + 1) := by
  have ht := taken_new sl v
  refine ⟨h.m1, h.m2, h.g1, h.g2, by simp; omega, ?_, by simp, by simp, ?_, ?_⟩
  · intro i s hi
    by_cases hc : i = sl.length
    · subst hc
      rw [ht.now] at hi
      simp at hi
      subst hi
      exact ⟨by simp, h.g1⟩
    · rw [ht.oth i hc] at hi
      exact h.gen i s hi
  · intro i s hi hd hg
    by_cases hc : i = sl.length
    · subst hc
      rw [ht.now] at hi
      simp at hi
      subst hi
      cases hd
    · rw [ht.oth i hc] at hi
      exact h.all i s hi hd hg
  · have := h.cnt
    simp
    omega

theorem taken_free {sl : List Slot} {i : Nat} {s : Slot} (hi : sl[i]? = some s) (hd : s.alive = false) (hg : 0 ≤ s.gen) (v : Value) : Taken sl (sl.set i (anew s v)) i (s.gen + 1) v :=
  ⟨getElem?_set_self' _ _ _ _ hi, fun j hj => getElem?_set_ne' _ _ _ _ hj, fun s' hs => by rw [hi] at hs; simp at hs; subst hs; exact ⟨hd, rfl⟩, by omega⟩

theorem inv_free {most gens : Int} {sl : List Slot} {fr : List Int} {live : Int} {i : Nat} (h : AInv most gens sl (fr ++ [(i : Int)]) live) (v : Value) :
    ∃ s, sl[i]? = some s ∧ s.alive = false ∧ s.gen < gens ∧ 1 ≤ s.gen ∧ AInv most gens (sl.set i (anew s v)) fr (live + 1) := by
  obtain ⟨i', s, he, hs, hd, hg⟩ := h.frd (i : Int) (by simp)
  have : i' = i := by omega
  subst this
  have hgen := h.gen i' s hs
  have ht := taken_free hs hd (by omega) v
  have hl := (List.getElem?_eq_some_iff.1 hs).1
  have hnd : ¬ ((i' : Int) ∈ fr) ∧ fr.Nodup := by
    have := h.frn
    rw [List.nodup_append] at this
    exact ⟨fun hm => this.2.2 _ hm _ (by simp) rfl, this.1⟩
  refine ⟨s, hs, hd, hg, hgen.1, h.m1, h.m2, h.g1, h.g2, by simpa using h.len, ?_, ?_, hnd.2, ?_, ?_⟩
  · intro j s' hj
    by_cases hc : j = i'
    · subst hc
      rw [ht.now] at hj
      simp at hj
      subst hj
      exact ⟨ht.gen, by simp; omega⟩
    · rw [ht.oth j hc] at hj
      exact h.gen j s' hj
  · intro x hx
    obtain ⟨j, s', he', hs', hd', hg'⟩ := h.frd x (by simp [hx])
    refine ⟨j, s', he', ?_, hd', hg'⟩
    rw [ht.oth j (by rintro rfl; exact hnd.1 (by rw [← he']; exact hx))]
    exact hs'
  · intro j s' hj hd' hg'
    by_cases hc : j = i'
    · subst hc
      rw [ht.now] at hj
      simp at hj
      subst hj
      cases hd'
    · rw [ht.oth j hc] at hj
      have := h.all j s' hj hd' hg'
      simp at this
      rcases this with h1 | h1
      · exact h1
      · omega
  · have h1 := h.cnt
    have h2 := List.countP_set (p := fun s : Slot => s.alive) (l := sl) (i := i') (a := anew s v) hl
    have h3 : sl[i'] = s := (List.getElem?_eq_some_iff.1 hs).2
    rw [h2, h3, hd]
    simp [anew]
    omega

theorem inv_gone {most gens : Int} {sl : List Slot} {fr : List Int} {live : Int} {i : Nat} {s : Slot} (h : AInv most gens sl fr live) (hs : sl[i]? = some s) (ha : s.alive = true) (z : Value) :
    1 ≤ live ∧ (gens ≤ s.gen → AInv most gens (sl.set i (gone s z)) fr (live - 1)) ∧ (s.gen < gens → AInv most gens (sl.set i (gone s z)) (fr ++ [(i : Int)]) (live - 1)) := by
  have hl := (List.getElem?_eq_some_iff.1 hs).1
  have hgen := h.gen i s hs
  have hnow : (sl.set i (gone s z))[i]? = some (gone s z) := getElem?_set_self' _ _ _ _ hs
  have hoth : ∀ j, j ≠ i → (sl.set i (gone s z))[j]? = sl[j]? := fun j hj => getElem?_set_ne' _ _ _ _ hj
  have hnf : ¬ ((i : Int) ∈ fr) := by
    intro hm
    obtain ⟨j, s', he, hs', hd, _⟩ := h.frd _ hm
    have : j = i := by omega
    subst this
    rw [hs] at hs'
    simp at hs'
    subst hs'
    rw [ha] at hd
    cases hd
  have hc1 := List.countP_set (p := fun s : Slot => s.alive) (l := sl) (i := i) (a := gone s z) hl
  have h3 : sl[i] = s := (List.getElem?_eq_some_iff.1 hs).2
  rw [h3, ha] at hc1
  simp only [gone, if_true, Bool.false_eq_true, if_false] at hc1
  have hpos : 0 < sl.countP (·.alive) := List.countP_pos_iff.2 ⟨s, List.mem_of_getElem? hs, ha⟩
  have hcnt := h.cnt
  have hgen' : ∀ (j : Nat) (s' : Slot), (sl.set i (gone s z))[j]? = some s' → 1 ≤ s'.gen ∧ s'.gen ≤ gens := by
    intro j s' hj
    by_cases hc : j = i
    · subst hc
      rw [hnow] at hj
      simp at hj
      subst hj
      exact hgen
    · rw [hoth j hc] at hj
      exact h.gen j s' hj
  have hfrd : ∀ x ∈ fr, ∃ (j : Nat) (s' : Slot), x = j ∧ (sl.set i (gone s z))[j]? = some s' ∧ s'.alive = false ∧ s'.gen < gens := by
    intro x hx
    obtain ⟨j, s', he', hs', hd', hg'⟩ := h.frd x hx
    refine ⟨j, s', he', ?_, hd', hg'⟩
    rw [hoth j (by rintro rfl; exact hnf (by rw [← he']; exact hx))]
    exact hs'
  refine ⟨by omega, fun hge => ?_, fun hlt => ?_⟩
  · refine ⟨h.m1, h.m2, h.g1, h.g2, by simpa using h.len, hgen', hfrd, h.frn, ?_, by simp only [gone] at *; omega⟩
    intro j s' hj hd' hg'
    by_cases hc : j = i
    · subst hc
      rw [hnow] at hj
      simp at hj
      subst hj
      simp [gone] at hg'
      omega
    · rw [hoth j hc] at hj
      exact h.all j s' hj hd' hg'
  · refine ⟨h.m1, h.m2, h.g1, h.g2, by simpa using h.len, hgen', ?_, ?_, ?_, by simp only [gone] at *; omega⟩
    · intro x hx
      simp at hx
      rcases hx with hx | rfl
      · exact hfrd x hx
      · exact ⟨i, gone s z, rfl, hnow, rfl, hlt⟩
    · rw [List.nodup_append]
      exact ⟨h.frn, by simp, by rintro a ha' b hb rfl; simp at hb; subst hb; exact hnf ha'⟩
    · intro j s' hj hd' hg'
      by_cases hc : j = i
      · subst hc; simp
      · rw [hoth j hc] at hj
        simp [h.all j s' hj hd' hg']

/-- What ArenaOnce remembers: the references told (or filled in), and which are alive. -/
structure OInv (n : Nat) (sl : List Slot) (R : List (Int × Int)) (L : List Nat) : Prop where
  len : R.length ≤ n
  ref : ∀ r ∈ R, r.1 < 0 ∨ ∃ (i : Nat) (s : Slot), r.1 = i ∧ sl[i]? = some s ∧ r.2 ≤ s.gen
  nd : L.Nodup
  lv : ∀ k ∈ L, ∃ (i : Nat) (s : Slot), R[k]? = some ((i : Int), s.gen) ∧ sl[i]? = some s ∧ s.alive = true ∧ s.thing = .int .i64 k
  dd : ∀ (k : Nat) (r : Int × Int), R[k]? = some r → k ∉ L → ¬ hit sl r.1 r.2

theorem o_empty : OInv 0 [] [] [] := ⟨by simp, by simp, by simp, by simp, by simp⟩

theorem OInv.skip {n : Nat} {sl : List Slot} {R : List (Int × Int)} {L : List Nat} (h : OInv n sl R L) : OInv (n + 1) sl R L :=
  ⟨Nat.le_succ_of_le h.len, h.ref, h.nd, h.lv, h.dd⟩

theorem OInv.lt {n : Nat} {sl : List Slot} {R : List (Int × Int)} {L : List Nat} (h : OInv n sl R L) {k : Nat} (hk : k ∈ L) : k < R.length := by
  obtain ⟨i, s, hR, _⟩ := h.lv k hk
  exact (List.getElem?_eq_some_iff.1 hR).1

theorem nodup_get : ∀ {L : List Nat}, L.Nodup → ∀ {i j x : Nat}, L[i]? = some x → L[j]? = some x → i = j := by
  intro L
  induction L with
  | nil => intro _ i j x h; simp at h
  | cons a L ih =>
    intro hn i j x h1 h2
    rw [List.nodup_cons] at hn
    cases i with
    | zero =>
      cases j with
      | zero => rfl
      | succ j => simp at h1 h2; subst h1; exact absurd (List.mem_of_getElem? h2) hn.1
    | succ i =>
      cases j with
      | zero => simp at h1 h2; subst h2; exact absurd (List.mem_of_getElem? h1) hn.1
      | succ j => simp at h1 h2; rw [ih hn.2 h1 h2]

theorem mem_eraseIdx_nodup {L : List Nat} (hn : L.Nodup) {k m x : Nat} (hk : L[k]? = some m) : x ∈ L.eraseIdx k ↔ x ∈ L ∧ x ≠ m := by
  rw [List.mem_eraseIdx_iff_getElem?]
  constructor
  · rintro ⟨i, hne, hi⟩
    refine ⟨List.mem_of_getElem? hi, ?_⟩
    rintro rfl
    exact hne (nodup_get hn hi hk)
  · rintro ⟨hm, hne⟩
    obtain ⟨i, hi⟩ := List.getElem?_of_mem hm
    refine ⟨i, ?_, hi⟩
    rintro rfl
    rw [hk] at hi
    simp at hi
    exact hne hi.symm

theorem OInv.give {n : Nat} {sl : List Slot} {R : List (Int × Int)} {L : List Nat} (h : OInv n sl R L) {k m i : Nat} {s : Slot} (hk : L[k]? = some m) (hR : R[m]? = some ((i : Int), s.gen)) (hs : sl[i]? = some s) (ht : s.thing = .int .i64 m) (z : Value) :
    OInv n (sl.set i (gone s z)) R (L.eraseIdx k) := by
  have hnow : (sl.set i (gone s z))[i]? = some (gone s z) := getElem?_set_self' _ _ _ _ hs
  have hoth : ∀ j, j ≠ i → (sl.set i (gone s z))[j]? = sl[j]? := fun j hj => getElem?_set_ne' _ _ _ _ hj
  have hhit : ∀ a b, hit (sl.set i (gone s z)) a b → hit sl a b ∧ a ≠ i := by
    rintro a b ⟨j, s', he, hs', ha', hg'⟩
    by_cases hc : j = i
    · subst hc
      rw [hnow] at hs'
      simp at hs'
      subst hs'
      cases ha'
    · rw [hoth j hc] at hs'
      exact ⟨⟨j, s', he, hs', ha', hg'⟩, by omega⟩
  refine ⟨h.len, ?_, h.nd.sublist (List.eraseIdx_sublist _ _), ?_, ?_⟩
  · intro r hr
    rcases h.ref r hr with h1 | ⟨j, s', he, hs', hle⟩
    · exact .inl h1
    · by_cases hc : j = i
      · subst hc
        rw [hs] at hs'
        simp at hs'
        subst hs'
        exact .inr ⟨j, gone s z, he, hnow, hle⟩
      · exact .inr ⟨j, s', he, by rw [hoth j hc]; exact hs', hle⟩
  · intro k' hk'
    obtain ⟨hm, hne⟩ := (mem_eraseIdx_nodup h.nd hk).1 hk'
    obtain ⟨j, s', hR', hs', ha', ht'⟩ := h.lv k' hm
    have hc : j ≠ i := by
      rintro rfl
      rw [hs] at hs'
      simp at hs'
      subst hs'
      rw [ht] at ht'
      injection ht' with _ h2
      omega
    exact ⟨j, s', hR', by rw [hoth j hc]; exact hs', ha', ht'⟩
  · intro k' r hr hk' hh
    obtain ⟨h1, h2⟩ := hhit _ _ hh
    by_cases hm : k' ∈ L
    · have : k' = m := by
        by_cases e : k' = m
        · exact e
        · exact absurd ((mem_eraseIdx_nodup h.nd hk).2 ⟨hm, e⟩) hk'
      subst this
      rw [hR] at hr
      simp at hr
      subst hr
      exact h2 rfl
    · exact h.dd k' r hr hm h1

theorem OInv.fresh {n : Nat} {sl sl' : List Slot} {R : List (Int × Int)} {L : List Nat} {i : Nat} {g : Int} {v : Value} (h : OInv n sl R L) (ht : Taken sl sl' i g v) : ∀ r ∈ R, r ≠ ((i : Int), g) := by
  rintro r hr rfl
  rcases h.ref _ hr with h1 | ⟨j, s, he, hs, hle⟩
  · simp at h1; omega
  · simp at he
    have : j = i := by omega
    subst this
    have := (ht.old s hs).2
    simp at hle
    omega

theorem OInv.take {n : Nat} {sl sl' : List Slot} {R P : List (Int × Int)} {L : List Nat} {i : Nat} {g : Int} (h : OInv n sl R L) (ht : Taken sl sl' i g (.int .i64 n)) (hl : R.length + P.length = n) (hP : ∀ r ∈ P, r.1 < 0) :
    OInv (n + 1) sl' (R ++ P ++ [((i : Int), g)]) (L ++ [n]) := by
  have hlast : (R ++ P ++ [((i : Int), g)])[n]? = some ((i : Int), g) := by
    rw [List.getElem?_append_right (by simp; omega)]
    simp [show n - (R.length + P.length) = 0 by omega]
  have hold : ∀ k, k < R.length → (R ++ P ++ [((i : Int), g)])[k]? = R[k]? := fun k hk => by
    rw [List.append_assoc, List.getElem?_append_left hk]
  have hhit : ∀ a b, hit sl' a b → (a = i ∧ b = g) ∨ (a ≠ i ∧ hit sl a b) := by
    rintro a b ⟨j, s', he, hs', ha', hg'⟩
    by_cases hc : j = i
    · subst hc
      rw [ht.now] at hs'
      simp at hs'
      subst hs'
      exact .inl ⟨he, hg'.symm⟩
    · rw [ht.oth j hc] at hs'
      exact .inr ⟨by omega, ⟨j, s', he, hs', ha', hg'⟩⟩
  refine ⟨by simp; omega, ?_, ?_, ?_, ?_⟩
  · intro r hr
    simp at hr
    rcases hr with hr | hr | rfl
    · rcases h.ref r hr with h1 | ⟨j, s, he, hs, hle⟩
      · exact .inl h1
      · by_cases hc : j = i
        · subst hc
          have := (ht.old s hs).2
          exact .inr ⟨j, _, he, ht.now, by simp; omega⟩
        · exact .inr ⟨j, s, he, by rw [ht.oth j hc]; exact hs, hle⟩
    · exact .inl (hP r hr)
    · exact .inr ⟨i, _, rfl, ht.now, by simp⟩
  · rw [List.nodup_append]
    refine ⟨h.nd, by simp, ?_⟩
    rintro a ha b hb rfl
    simp at hb
    have := h.lt ha
    omega
  · intro k hk
    simp at hk
    rcases hk with hk | rfl
    · obtain ⟨j, s, hR, hs, ha, hth⟩ := h.lv k hk
      have hc : j ≠ i := by
        rintro rfl
        have := (ht.old s hs).1
        rw [ha] at this
        cases this
      exact ⟨j, s, by rw [hold k (h.lt hk)]; exact hR, by rw [ht.oth j hc]; exact hs, ha, hth⟩
    · exact ⟨i, _, hlast, ht.now, rfl, rfl⟩
  · intro k r hr hk hh
    simp at hk
    have hkl : k < R.length + P.length := by
      have := (List.getElem?_eq_some_iff.1 hr).1
      simp at this
      omega
    rcases Nat.lt_or_ge k R.length with hkR | hkR
    · rw [hold k hkR] at hr
      rcases hhit _ _ hh with ⟨h1, h2⟩ | ⟨_, h2⟩
      · exact h.fresh ht r (List.mem_of_getElem? hr) (by rw [← h1, ← h2])
      · exact h.dd k r hr hk.1 h2
    · rw [List.append_assoc, List.getElem?_append_right hkR, List.getElem?_append_left (by omega)] at hr
      have := hP r (List.mem_of_getElem? hr)
      obtain ⟨j, s', he, _⟩ := hh
      omega
end Go.Proofs.Ytppoakomeaamhaa
