/- The arena and the document's arena: each step keeps them alike: plain laws. -/
import Derived.Test.YtppoakomeaamhaaSm1
namespace Go.Proofs.Ytppoakomeaamhaa
open Go.RowKit
set_option linter.unusedVariables false

section
variable {most gens clock : Int} {sl sl' : List Slot} {fr fr' : List Int} {live : Int} {all : List One}

theorem backOf_append (o : One) {i : Int} (h : o.slot ≠ i) (hl : lastL all i < all.length) (h0 : 0 ≤ lastL all i) : backOf (all ++ [o]) i = backOf all i := by
  unfold backOf
  rw [lastL_append, if_neg h, List.getElem?_append_left (by omega)]

theorem Sim.take (h : Sim sl fr all clock) (hi : AInv most gens sl fr live) {i : Nat} {g v : Int} (ht : Taken sl sl' i g (.int .i64 v)) (hfs : ∀ x ∈ fr', x ∈ fr ∧ x ≠ (i : Int)) (hord : fr'.Pairwise (fun a b => backOf all a < backOf all b)) :
    Sim sl' fr' (all ++ [⟨i, g, v, true, 0⟩]) clock := by
  have hold : ∀ (k : Nat) (o : One), (all ++ [⟨i, g, v, true, 0⟩])[k]? = some o → (all[k]? = some o) ∨ (k = all.length ∧ o = ⟨i, g, v, true, 0⟩) := by
    intro k o ho
    rcases Nat.lt_or_ge k all.length with hk | hk
    · rw [List.getElem?_append_left hk] at ho
      exact .inl ho
    · have hkl := (List.getElem?_eq_some_iff.1 ho).1
      simp at hkl
      have : k = all.length := by omega
      subst this
      simp at ho
      exact .inr ⟨rfl, ho.symm⟩
  refine ⟨?_, ?_, ?_, h.clk⟩
  · intro k o ho
    rcases hold k o ho with ho1 | ⟨rfl, rfl⟩
    · obtain ⟨j, s, e1, e2, e3, e4, e5, e6, e7⟩ := h.ent k o ho1
      by_cases hji : j = i
      · subst hji
        have h1 := ht.old s e2
        refine ⟨j, _, e1, ht.now, e3, by simp; omega, e5, e6, fun ha => ?_⟩
        exfalso
        obtain ⟨k', o', f1, f2, f3, f4, f5, _⟩ := h.las j s e2
        have := e7 ha
        have hkk : k' = k := by omega
        subst hkk
        rw [ho1] at f2
        simp at f2
        subst f2
        rw [h1.1, ha] at f5
        cases f5
      · refine ⟨j, s, e1, by rw [ht.oth j hji]; exact e2, e3, e4, e5, e6, fun ha => ?_⟩
        rw [lastL_append, if_neg (by simp; omega)]
        exact e7 ha
    · refine ⟨i, _, rfl, ht.now, ht.gen, by simp, by simp, h.clk, fun _ => ?_⟩
      rw [lastL_append, if_pos rfl]
  · intro j s hs
    by_cases hji : j = i
    · subst hji
      rw [ht.now] at hs
      simp at hs
      subst hs
      exact ⟨all.length, ⟨j, g, v, true, 0⟩, by rw [lastL_append, if_pos rfl], by simp, rfl, rfl, rfl, fun _ => rfl⟩
    · rw [ht.oth j hji] at hs
      obtain ⟨k, o, e1, e2, e3, e4, e5, e6⟩ := h.las j s hs
      refine ⟨k, o, by rw [lastL_append, if_neg (by simp; omega)]; exact e1, ?_, e3, e4, e5, e6⟩
      rw [List.getElem?_append_left (List.getElem?_eq_some_iff.1 e2).1]
      exact e2
  · refine List.Pairwise.imp_of_mem ?_ hord
    intro a b ha hb hab
    have h1 := (hfs a ha).2
    have h2 := (hfs b hb).2
    have hr : ∀ s, lastL all s < all.length := fun s => (lastN_range all s all.length).2
    have h0 : ∀ x ∈ fr, 0 ≤ lastL all x := by
      intro x hx
      obtain ⟨j, s, rfl, e2, _⟩ := hi.frd x hx
      obtain ⟨k, _, e1, _⟩ := h.las j s e2
      omega
    rw [backOf_append _ (by simp; omega) (hr a) (h0 a (hfs a ha).1), backOf_append _ (by simp; omega) (hr b) (h0 b (hfs b hb).1)]
    exact hab

theorem backOf_set {k : Nat} {o o' : One} (hk : all[k]? = some o) (he : o'.slot = o.slot) {i : Int} (hi : lastL all i ≠ (k : Int)) (h0 : 0 ≤ lastL all i) : backOf (all.set k o') i = backOf all i := by
  unfold backOf
  rw [lastL_set hk he, getElem?_set_ne' _ _ _ _ (by omega)]

theorem Sim.give (h : Sim sl fr all clock) (hi : AInv most gens sl fr live) {i k : Nat} {s : Slot} {o : One} (hs : sl[i]? = some s) (ha : s.alive = true) (ho : all[k]? = some o) (hos : o.slot = i) (hl : lastL all i = (k : Int)) (hog : o.gen = s.gen) (z : Value) :
    Sim (sl.set i (gone s z)) (if s.gen < gens then fr ++ [(i : Int)] else fr) (all.set k (goneO o (clock + 1))) (clock + 1) := by
  have hnow : (sl.set i (gone s z))[i]? = some (gone s z) := getElem?_set_self' _ _ _ _ hs
  have hoth : ∀ j, j ≠ i → (sl.set i (gone s z))[j]? = sl[j]? := fun j hj => getElem?_set_ne' _ _ _ _ hj
  have hLs : ∀ t, lastL (all.set k (goneO o (clock + 1))) t = lastL all t := fun t => lastL_set (o' := goneO o (clock + 1)) ho rfl t
  have hck := h.clk
  refine ⟨?_, ?_, ?_, by omega⟩
  · intro j q hq
    by_cases hjk : j = k
    · subst hjk
      rw [getElem?_set_self' _ _ _ _ ho] at hq
      simp at hq
      subst hq
      obtain ⟨i', s', e1, e2, e3, e4, _⟩ := h.ent j o ho
      have : i' = i := by omega
      subst this
      rw [hs] at e2
      simp at e2
      subst e2
      exact ⟨i', _, e1, hnow, e3, e4, by simp [goneO]; omega, by simp [goneO], fun hx => by cases hx⟩
    · rw [getElem?_set_ne' _ _ _ _ hjk] at hq
      obtain ⟨i', s', e1, e2, e3, e4, e5, e6, e7⟩ := h.ent j q hq
      by_cases hii : i' = i
      · subst hii
        rw [hs] at e2
        simp at e2
        subst e2
        refine ⟨i', _, e1, hnow, e3, e4, e5, by omega, fun hx => ?_⟩
        rw [hLs]
        exact e7 hx
      · refine ⟨i', s', e1, by rw [hoth i' hii]; exact e2, e3, e4, e5, by omega, fun hx => ?_⟩
        rw [hLs]
        exact e7 hx
  · intro j s' hj
    by_cases hji : j = i
    · subst hji
      rw [hnow] at hj
      simp at hj
      subst hj
      exact ⟨k, _, by rw [hLs]; exact hl, getElem?_set_self' _ _ _ _ ho, hos, hog, rfl, fun hx => by cases hx⟩
    · rw [hoth j hji] at hj
      obtain ⟨k', o', e1, e2, e3, e4, e5, e6⟩ := h.las j s' hj
      have hkk : k' ≠ k := by
        rintro rfl
        rw [ho] at e2
        simp at e2
        subst e2
        omega
      exact ⟨k', o', by rw [hLs]; exact e1, by rw [getElem?_set_ne' _ _ _ _ hkk]; exact e2, e3, e4, e5, e6⟩
  · have hni : ¬ ((i : Int) ∈ fr) := by
      intro hm
      obtain ⟨j, s', e1, e2, e3, _⟩ := hi.frd _ hm
      have : j = i := by omega
      subst this
      rw [hs] at e2
      simp at e2
      subst e2
      rw [ha] at e3
      cases e3
    have hb : ∀ a ∈ fr, backOf (all.set k (goneO o (clock + 1))) a = backOf all a ∧ backOf all a ≤ clock := by
      intro a hm
      obtain ⟨j, s', rfl, e2, _, _⟩ := hi.frd a hm
      obtain ⟨k', o', f1, f2, f3, _⟩ := h.las j s' e2
      have hne : (k' : Int) ≠ (k : Int) := by
        intro e
        have : k' = k := by omega
        subst this
        rw [ho] at f2
        simp at f2
        subst f2
        apply hni
        have : (j : Int) = (i : Int) := by omega
        rw [← this]
        exact hm
      refine ⟨backOf_set (o' := goneO o (clock + 1)) ho rfl (by rw [f1]; exact hne) (by omega), ?_⟩
      obtain ⟨_, _, _, _, _, _, _, h6, _⟩ := h.ent k' o' f2
      have := h.back f2 (by rw [f3]; exact f1)
      rw [f3] at this
      omega
    have hp : fr.Pairwise (fun a b => backOf (all.set k (goneO o (clock + 1))) a < backOf (all.set k (goneO o (clock + 1))) b) := by
      refine List.Pairwise.imp_of_mem ?_ h.ord
      intro a b h1 h2 hab
      rw [(hb a h1).1, (hb b h2).1]
      exact hab
    split
    · rw [List.pairwise_append]
      refine ⟨hp, by simp, ?_⟩
      intro a h1 b h2
      simp at h2
      subst h2
      rw [(hb a h1).1]
      have hbi : backOf (all.set k (goneO o (clock + 1))) (i : Int) = clock + 1 := by
        unfold backOf
        rw [hLs, hl, Int.toNat_natCast, getElem?_set_self' _ _ _ _ ho]
        rfl
      rw [hbi]
      have := (hb a h1).2
      omega
    · exact hp

theorem Sim.put (h : Sim sl fr all clock) {i k : Nat} {s : Slot} {o : One} (hs : sl[i]? = some s) (ho : all[k]? = some o) (hos : o.slot = i) (hl : lastL all i = (k : Int)) (v : Int) :
    Sim (sl.set i { s with thing := .int .i64 v }) fr (all.set k { o with thing := v }) clock := by
  have hnow : (sl.set i { s with thing := Value.int .i64 v })[i]? = some { s with thing := Value.int .i64 v } := getElem?_set_self' _ _ _ _ hs
  have hoth : ∀ j, j ≠ i → (sl.set i { s with thing := Value.int .i64 v })[j]? = sl[j]? := fun j hj => getElem?_set_ne' _ _ _ _ hj
  have hLs : ∀ t, lastL (all.set k { o with thing := v }) t = lastL all t := fun t => lastL_set (o' := { o with thing := v }) ho rfl t
  have hbk : ∀ t, backOf (all.set k { o with thing := v }) t = backOf all t := by
    intro t
    unfold backOf
    rw [hLs]
    by_cases e : (lastL all t).toNat = k
    · rw [e, getElem?_set_self' _ _ _ _ ho, ho]
    · rw [getElem?_set_ne' _ _ _ _ e]
  refine ⟨?_, ?_, ?_, h.clk⟩
  · intro j q hq
    by_cases hjk : j = k
    · subst hjk
      rw [getElem?_set_self' _ _ _ _ ho] at hq
      simp at hq
      subst hq
      obtain ⟨i', s', e1, e2, e3, e4, e5, e6, e7⟩ := h.ent j o ho
      have : i' = i := by omega
      subst this
      rw [hs] at e2
      simp at e2
      subst e2
      exact ⟨i', _, e1, hnow, e3, e4, e5, e6, fun hx => by rw [hLs]; exact e7 hx⟩
    · rw [getElem?_set_ne' _ _ _ _ hjk] at hq
      obtain ⟨i', s', e1, e2, e3, e4, e5, e6, e7⟩ := h.ent j q hq
      by_cases hii : i' = i
      · subst hii
        rw [hs] at e2
        simp at e2
        subst e2
        exact ⟨i', _, e1, hnow, e3, e4, e5, e6, fun hx => by rw [hLs]; exact e7 hx⟩
      · exact ⟨i', s', e1, by rw [hoth i' hii]; exact e2, e3, e4, e5, e6, fun hx => by rw [hLs]; exact e7 hx⟩
  · intro j s' hj
    by_cases hji : j = i
    · subst hji
      rw [hnow] at hj
      simp at hj
      subst hj
      obtain ⟨k', o', e1, e2, e3, e4, e5, e6⟩ := h.las j s hs
      have hkk : k' = k := by omega
      subst hkk
      rw [ho] at e2
      simp at e2
      subst e2
      exact ⟨k', _, by rw [hLs]; exact hl, getElem?_set_self' _ _ _ _ ho, e3, e4, e5, fun _ => rfl⟩
    · rw [hoth j hji] at hj
      obtain ⟨k', o', e1, e2, e3, e4, e5, e6⟩ := h.las j s' hj
      have hkk : k' ≠ k := by
        rintro rfl
        rw [ho] at e2
        simp at e2
        subst e2
        omega
      exact ⟨k', o', by rw [hLs]; exact e1, by rw [getElem?_set_ne' _ _ _ _ hkk]; exact e2, e3, e4, e5, e6⟩
  · refine h.ord.imp (fun hab => ?_)
    rw [hbk, hbk]
    exact hab

/-- Give on both sides. -/
theorem Sim.giveR {S : List Slot × List Int} {R R' : List One × Int} (h : Sim S.1 S.2 R.1 R.2) (hi : AInv most gens S.1 S.2 (liveN S.1)) {i : Nat} {g : Int} (hg : GiveR R i g R') (z : Value) : Sim (giveA gens z S i g).1 (giveA gens z S i g).2 R'.1 R'.2 := by
  obtain ⟨sl, fr⟩ := S
  obtain ⟨r, hf, hr⟩ := hg
  rcases h.find hf with ⟨hh, k, i', t, o, e1, e2, e3, e4, e5, e6, e7, e8, e9, e10⟩ | ⟨hn, hr1⟩
  · rcases hr with ⟨hr, _⟩ | ⟨k', o', f1, f2, rfl⟩
    · omega
    · have hkk : k' = k := by omega
      subst hkk
      rw [e6] at f2
      simp at f2
      subst f2
      have hii : i' = i := by omega
      subst hii
      subst e5
      rw [giveA_hit e3 e4]
      exact h.give hi e3 e4 e6 e7 e9 e8 z
  · rcases hr with ⟨_, rfl⟩ | ⟨k', o', f1, _⟩
    · rw [giveA_no hn]
      exact h
    · omega

theorem Sim.givesR {S0 : List Slot × List Int} {R0 : List One × Int} (h : Sim S0.1 S0.2 R0.1 R0.2) (hi : AInv most gens S0.1 S0.2 (liveN S0.1)) (z : Value) {x : List One} {R : List One × Int} (hg : GivesR R0 x R) :
    ∀ ts : List (Nat × Int × Int), x.map (fun o => (o.slot, o.gen, o.thing)) = ts.map (fun t => ((t.1 : Int), t.2.1, t.2.2)) → Sim (giveAll gens z S0 ts).1 (giveAll gens z S0 ts).2 R.1 R.2 ∧ AInv most gens (giveAll gens z S0 ts).1 (giveAll gens z S0 ts).2 (liveN (giveAll gens z S0 ts).1) := by
  induction hg with
  | nil =>
    intro ts he
    have : ts = [] := by
      cases ts with
      | nil => rfl
      | cons t ts => simp at he
    subst this
    exact ⟨h, hi⟩
  | @snoc l o S S' h1 h2 ih =>
    intro ts he
    rcases List.eq_nil_or_concat ts with rfl | ⟨ts0, t, rfl⟩
    · simp at he
    · rw [List.concat_eq_append] at he ⊢
      rw [List.map_append, List.map_append] at he
      obtain ⟨he1, he2⟩ := List.append_inj' he (by simp)
      simp at he2
      obtain ⟨i1, i2⟩ := ih ts0 he1
      rw [giveAll_snoc]
      rw [he2.1, he2.2.1] at h2
      exact ⟨i1.giveR i2 h2 z, i2.giveA _ _ _⟩
end
end Go.Proofs.Ytppoakomeaamhaa
