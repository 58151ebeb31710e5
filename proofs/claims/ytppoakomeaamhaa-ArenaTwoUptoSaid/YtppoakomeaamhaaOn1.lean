/- The arena of ints, each call once more over the arena's invariant. -/
import Derived.Test.YtppoakomeaamhaaArG
import Derived.Test.YtppoakomeaamhaaOn0
namespace Go.Proofs.Ytppoakomeaamhaa
open Go.RowKit

/-- What Take leaves where it goes well. -/
structure TookOk (w w' : World) (T E : TypeId) (p : Nat) (most gens : Int) (sl : List Slot) (fr : List Int) (live : Int) (vs vf : Value) (v : Value) (e : Ending) (i : Nat) (g : Int) (sl' : List Slot) (fr' : List Int) (vs' vf' : Value) : Prop where
  he : e = .returned (.tuple #[.agg #[.int .i64 i, .int .i64 g], .int .i64 0])
  now : ANow w w' T E p most gens sl' fr' (live + 1) vs vf vs' vf'
  inv : AInv most gens sl' fr' (live + 1)
  taken : Taken sl sl' i g v
  room : most - (sl'.length : Int) + fr'.length = most - sl.length + fr.length - 1

/-- What Take does. -/
def TookAny (w w' : World) (T E : TypeId) (p : Nat) (most gens : Int) (sl : List Slot) (fr : List Int) (live : Int) (vs vf : Value) (v : Value) (e : Ending) : Prop :=
  (e = .returned (.tuple #[.agg #[.int .i64 0, .int .i64 0], .int .i64 31]) ∧ Below w.heap.size w w' ∧ fr = [] ∧ most ≤ (sl.length : Int)) ∨
  ∃ i g sl' fr' vs' vf', TookOk w w' T E p most gens sl fr live vs vf v e i g sl' fr' vs' vf'

theorem take_any (w : World) (p : Nat) (most gens : Int) (sl : List Slot) (fr : List Int) (live : Int) (vs vf : Value) (v : Int)
    (h : ARep w 61 65 p most gens sl fr live vs vf) (hi : AInv most gens sl fr live) :
    Calls Try.prog 16 #[.pointer (some ⟨p, 0, none⟩), .int .i64 v] w fun e w' =>
      TookAny w w' 61 65 p most gens sl fr live vs vf (.int .i64 v) e := by
  have hcnt := hi.count
  have h1 := hi.len
  have h2 := hi.m2
  have h3 := hi.g2
  rcases List.eq_nil_or_concat fr with rfl | ⟨fr0, x, rfl⟩
  · by_cases hr : (sl.length : Int) < most
    · refine (take_new w p most gens sl live vs vf v h hr (by omega) (by omega) (by omega)).mono ?_
      rintro e w' ⟨rfl, vs', hn⟩
      exact .inr ⟨sl.length, 1, _, [], vs', vf, rfl, hn, inv_new hi hr _, taken_new sl _, by simp; omega⟩
    · refine (take_full w p most gens sl live vs vf v h (by omega)).mono ?_
      rintro e w' ⟨rfl, hb⟩
      exact .inl ⟨rfl, hb, rfl, by omega⟩
  · rw [List.concat_eq_append] at h hi
    obtain ⟨i, s0, rfl, _⟩ := hi.frd x (by simp)
    obtain ⟨s, hs, hd, hg, hg1, hi'⟩ := inv_free hi (.int .i64 v)
    rw [List.concat_eq_append]
    refine (take_free w p most gens sl fr0 live vs vf i s hs v h (by omega) (by omega) (by omega) (by omega)).mono ?_
    rintro e w' ⟨rfl, vf', hn⟩
    exact .inr ⟨i, s.gen + 1, _, fr0, vs, vf', rfl, hn, hi', taken_free hs hd (by omega) _, by simp; omega⟩

/-- What Give leaves of a reference that is alive. -/
structure Gave (w w' : World) (T E : TypeId) (p : Nat) (most gens : Int) (sl : List Slot) (fr : List Int) (live : Int) (vs vf : Value) (z : Value) (i : Nat) (s : Slot) (e : Ending) (fr' : List Int) (vf' : Value) : Prop where
  he : e = .returned (.int .i64 0)
  now : ANow w w' T E p most gens (sl.set i (gone s z)) fr' (live - 1) vs vf vs vf'
  inv : AInv most gens (sl.set i (gone s z)) fr' (live - 1)
  free : fr' = if s.gen < gens then fr ++ [(i : Int)] else fr

theorem give_any (w : World) (p : Nat) (most gens : Int) (sl : List Slot) (fr : List Int) (live : Int) (vs vf : Value)
    (h : ARep w 61 65 p most gens sl fr live vs vf) (hi : AInv most gens sl fr live) (i : Nat) (s : Slot) (hs : sl[i]? = some s) (ha : s.alive = true) (gen : Int) (hg : s.gen = gen) :
    Calls Try.prog 15 #[.pointer (some ⟨p, 0, none⟩), .agg #[.int .i64 i, .int .i64 gen]] w fun e w' =>
      ∃ fr' vf', Gave w w' 61 65 p most gens sl fr live vs vf (.int .i64 0) i s e fr' vf' := by
  have hcnt := hi.count
  have h1 := hi.len
  have h2 := hi.m2
  have h3 := hi.g2
  obtain ⟨k1, k2, k3⟩ := inv_gone hi hs ha (.int .i64 0)
  by_cases hl : s.gen < gens
  · refine (give_free w p most gens sl fr live vs vf h i s hs ha gen hg (by omega) (by omega) hl (by omega)).mono ?_
    rintro e w' ⟨rfl, vf', hn⟩
    exact ⟨_, vf', rfl, hn, k3 hl, by rw [if_pos hl]⟩
  · refine (give_last w p most gens sl fr live vs vf h i s hs ha gen hg (by omega) (by omega) (by omega)).mono ?_
    rintro e w' ⟨rfl, hn⟩
    exact ⟨_, vf, rfl, hn, k2 (by omega), by rw [if_neg hl]⟩
end Go.Proofs.Ytppoakomeaamhaa
