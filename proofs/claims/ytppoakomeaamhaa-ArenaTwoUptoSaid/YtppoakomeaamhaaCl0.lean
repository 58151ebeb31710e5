/- Giving back many things; what a walk over the arena tells: plain laws. -/
import Derived.Test.YtppoakomeaamhaaOn2
namespace Go.Proofs.Ytppoakomeaamhaa
open Go.RowKit

/-- Give of any reference: what becomes of the slots and of the free ones. -/
def giveA (gens : Int) (z : Value) (S : List Slot × List Int) (i : Nat) (g : Int) : List Slot × List Int :=
  match S.1[i]? with
  | some s => if s.alive = true ∧ s.gen = g then (S.1.set i (gone s z), if s.gen < gens then S.2 ++ [(i : Int)] else S.2) else S
  | none => S

theorem giveA_hit {gens : Int} {z : Value} {sl : List Slot} {fr : List Int} {i : Nat} {s : Slot} (hs : sl[i]? = some s) (ha : s.alive = true) : giveA gens z (sl, fr) i s.gen = (sl.set i (gone s z), if s.gen < gens then fr ++ [(i : Int)] else fr) := by
  simp [giveA, hs, ha]
theorem giveA_no {gens : Int} {z : Value} {S : List Slot × List Int} {i : Nat} {g : Int} (h : ¬ hit S.1 i g) : giveA gens z S i g = S := by
  unfold giveA
  cases hs : S.1[i]? with
  | none => rfl
  | some s =>
    simp only
    rw [if_neg]
    rintro ⟨ha, hg⟩
    exact h ⟨i, s, rfl, hs, ha, hg⟩

def giveAll {V : Type} (gens : Int) (z : Value) (S : List Slot × List Int) (xs : List (Nat × Int × V)) : List Slot × List Int := xs.foldl (fun T x => giveA gens z T x.1 x.2.1) S
theorem giveAll_snoc {V : Type} (gens : Int) (z : Value) (S : List Slot × List Int) (xs : List (Nat × Int × V)) (x : Nat × Int × V) : giveAll gens z S (xs ++ [x]) = giveA gens z (giveAll gens z S xs) x.1 x.2.1 := by simp [giveAll, List.foldl_append]

/-- What has been told when k slots are over. -/
def told {V : Type} (f : Value → V) (sl : List Slot) : Nat → List (Nat × Int × V)
  | 0 => []
  | k + 1 => told f sl k ++ (match sl[k]? with | some s => if s.alive = true then [(k, s.gen, f s.thing)] else [] | none => [])
theorem told_yes {V : Type} (f : Value → V) {sl : List Slot} {k : Nat} {s : Slot} (hs : sl[k]? = some s) (ha : s.alive = true) : told f sl (k + 1) = told f sl k ++ [(k, s.gen, f s.thing)] := by simp [told, hs, ha]
theorem told_no {V : Type} (f : Value → V) {sl : List Slot} {k : Nat} {s : Slot} (hs : sl[k]? = some s) (ha : s.alive = false) : told f sl (k + 1) = told f sl k := by simp [told, hs, ha]
theorem told_len {V : Type} (f : Value → V) (sl : List Slot) : ∀ k, (told f sl k).length ≤ k := by
  intro k
  induction k with
  | zero => simp [told]
  | succ k ih =>
    unfold told
    cases hs : sl[k]? with
    | none => simp; omega
    | some s =>
      simp only
      split <;> simp <;> omega
theorem told_prefix {V : Type} (f : Value → V) (sl : List Slot) : ∀ j k, k ≤ j → told f sl k <+: told f sl j := by
  intro j
  induction j with
  | zero =>
    intro k hk
    obtain rfl : k = 0 := by omega
    exact List.prefix_refl _
  | succ j ih =>
    intro k hk
    by_cases e : k = j + 1
    · subst e; exact List.prefix_refl _
    · exact (ih k (by omega)).trans (by rw [told]; exact List.prefix_append _ _)

/-- Every thing is a number. -/
def Nums (sl : List Slot) : Prop := ∀ (i : Nat) (s : Slot), sl[i]? = some s → ∃ z, s.thing = .int .i64 z
def numV : Value → Int
  | .int _ z => z
  | _ => 0
theorem Nums.set {sl : List Slot} (h : Nums sl) (i : Nat) (s : Slot) (hz : ∃ z, s.thing = .int .i64 z) : Nums (sl.set i s) := by
  intro j s' hj
  rw [List.getElem?_set] at hj
  split at hj
  · split at hj
    · simp at hj; subst hj; exact hz
    · simp at hj
  · exact h j s' hj
theorem Nums.snoc {sl : List Slot} (h : Nums sl) (s : Slot) (hz : ∃ z, s.thing = .int .i64 z) : Nums (sl ++ [s]) := by
  intro j s' hj
  rw [List.getElem?_append] at hj
  split at hj
  · exact h j s' hj
  · have := List.mem_of_getElem? hj
    simp at this
    subst this
    exact hz
theorem Nums.nil : Nums [] := fun i s h => by simp at h
theorem Nums.taken {sl sl' : List Slot} {i : Nat} {g v : Int} (h : Nums sl) (ht : Taken sl sl' i g (.int .i64 v)) : Nums sl' := by
  intro j s' hj
  by_cases e : j = i
  · subst e
    rw [ht.now] at hj
    simp at hj
    subst hj
    exact ⟨v, rfl⟩
  · rw [ht.oth j e] at hj
    exact h j s' hj
theorem Nums.giveA {gens : Int} {S : List Slot × List Int} (h : Nums S.1) (i : Nat) (g : Int) : Nums (giveA gens (.int .i64 0) S i g).1 := by
  unfold Go.Proofs.Ytppoakomeaamhaa.giveA
  split
  · split
    · exact h.set _ _ ⟨0, rfl⟩
    · exact h
  · exact h
theorem Nums.ones {sl : List Slot} (h : Nums sl) : ∀ u ∈ sl.flatMap sc, u.oneCell' = true := by
  intro u hu
  obtain ⟨s, hs, hu⟩ := List.mem_flatMap.1 hu
  obtain ⟨i, hi⟩ := List.getElem?_of_mem hs
  obtain ⟨z, hz⟩ := h i s hi
  simp [sc, hz] at hu
  rcases hu with rfl | rfl | rfl <;> rfl

/-- How many are alive. -/
def liveN (sl : List Slot) : Int := ((sl.countP (·.alive) : Nat) : Int)
theorem AInv.live_eq {most gens : Int} {sl : List Slot} {fr : List Int} {live : Int} (h : AInv most gens sl fr live) : live = liveN sl := h.cnt
theorem AInv.giveA {most gens : Int} {S : List Slot × List Int} (h : AInv most gens S.1 S.2 (liveN S.1)) (i : Nat) (g : Int) (z : Value) : AInv most gens (giveA gens z S i g).1 (giveA gens z S i g).2 (liveN (giveA gens z S i g).1) := by
  obtain ⟨sl, fr⟩ := S
  by_cases hh : hit sl i g
  · obtain ⟨j, s, he, hs, ha, rfl⟩ := hh
    obtain rfl : i = j := by omega
    obtain ⟨k1, k2, k3⟩ := inv_gone h hs ha z
    rw [giveA_hit hs ha]
    by_cases hl : s.gen < gens
    · have := k3 hl
      have e := this.live_eq
      rw [e] at this
      simpa [hl] using this
    · have := k2 (by omega)
      have e := this.live_eq
      rw [e] at this
      simpa [hl] using this
  · rw [giveA_no hh]
    exact h
end Go.Proofs.Ytppoakomeaamhaa
