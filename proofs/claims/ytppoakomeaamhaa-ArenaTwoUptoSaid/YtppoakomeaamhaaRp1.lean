/- The document's arena, walked: last, Find, Len. -/
import Derived.Test.YtppoakomeaamhaaRp0
import Derived.Outline
namespace Go.Proofs.Ytppoakomeaamhaa
open Go.RowKit
set_option linter.unusedVariables false

theorem retI {k : IntKind} {a b : Int} (h : a = b) : Ending.returned (.int k a) = .returned (.int k b) := by rw [h]

/-- An entry of a row that is not empty. -/
theorem DRep.entry {w : World} {d : Nat} {slots gens clock : Int} {all : List One} {a : Option Addr} {cap k : Nat} (h : DRep w d slots gens all clock (.slice a all.length cap)) (hk : k < all.length) : ∃ g o, a = some ⟨g, 0, none⟩ ∧ g < w.heap.size ∧ all.length ≤ cap ∧ all[k]? = some o := by
  obtain ⟨g, cap', e, hg, hc, _⟩ := own_at h.all (by omega)
  simp only [Value.slice.injEq, true_and] at e
  obtain ⟨rfl, rfl⟩ := e
  exact ⟨g, all[k], rfl, hg, hc, List.getElem?_eq_getElem hk⟩

set_option maxHeartbeats 2000000 in
theorem last_any (w : World) (d : Nat) (slots gens clock : Int) (all : List One) (va : Value) (h : DRep w d slots gens all clock va) (hl : all.length ≤ 1000000000000) (s : Int) :
    Calls Try.prog 35 #[.pointer (some ⟨d, 0, none⟩), .int .i64 s] w fun e w' => e = .returned (.int .i64 (lastL all s)) ∧ w' = w := by
  obtain ⟨a, cap, rfl, hm⟩ := own_len h.all
  have x2 := h.blk.cell 2
  simp at x2
  have H := Lib.hid h
  have e0 : Hid (lastN all s all.length = lastL all s) := rfl
  clear h hm
  go_enter Try.func35, Try.ntmps35
  go_wp2_with fail
  go_loop [5] (fun ix => ∃ k : Nat, k ≤ all.length ∧ ix = .int .i64 ((k : Int) - 1) ∧ Hid (lastN all s k = lastL all s)) (fun ix => (intOf ix + 1).toNat)
  case atStart => exact ⟨all.length, Nat.le_refl _, rfl, e0⟩
  case round =>
    obtain ⟨k, hk, rfl, he⟩ := hrel
    cases k with
    | zero =>
      have e1 : (((0 : Nat) : Int) - 1) = -1 := rfl
      rw [e1]
      go_wp2_with fail
      go_ret
      have := he.out
      exact ⟨retI this, rfl⟩
    | succ k =>
      obtain ⟨g, o, rfl, hg, hc, ho⟩ := H.out.entry (k := k) (by omega)
      obtain ⟨d0, d1, d2, d3, d4⟩ := H.out.at ho
      have e1 : (((k + 1 : Nat) : Int) - 1) = (k : Int) := by omega
      rw [e1]
      have HO := Lib.hid ho
      clear d1 d2 d3 d4 ho
      by_cases hs : o.slot = s
      · have hl2 := lastN_hit HO.out hs
        have k1 : (o.slot == s) = true := beq_iff_eq.2 hs
        have HL := Lib.hid hl2
        clear hl2 hs
        go_wp2_with fail
        go_ret
        have := he.out
        rw [HL.out] at this
        exact ⟨retI this, rfl⟩
      · have hl2 := lastN_miss HO.out hs
        have k1 : (o.slot == s) = false := beq_eq_false_iff_ne.2 hs
        have HL : Hid (lastN all s k = lastL all s) := Lib.hid (hl2.symm.trans he.out)
        clear hl2 hs he
        go_wp2_with fail
        go_round
        case rel => exact ⟨k, by omega, by go_num, HL⟩
        case measure => simp only [intOf]; omega

set_option maxHeartbeats 4000000 in
theorem find_ref (w : World) (d : Nat) (slots gens clock : Int) (all : List One) (va : Value) (h : DRep w d slots gens all clock va) (hl : all.length ≤ 1000000000000) (s gn : Int) :
    Calls Try.prog 30 #[.pointer (some ⟨d, 0, none⟩), .int .i64 s, .int .i64 gn] w fun e w' => (∃ r, e = .returned (.int .i64 r) ∧ IsFind all s gn r) ∧ w' = w := by
  obtain ⟨a, cap, rfl, hm⟩ := own_len h.all
  have x2 := h.blk.cell 2
  simp at x2
  have H := Lib.hid h
  clear h hm
  go_enter Try.func30, Try.ntmps30
  go_wp2_with fail
  go_loop [7] (fun ix => ∃ k : Nat, k ≤ all.length ∧ ix = .int .i64 k ∧ Hid (∀ (j : Nat) (o : One), j < k → all[j]? = some o → ¬ isRef o s gn)) (fun ix => all.length - (intOf ix).toNat)
  case atStart => exact ⟨0, Nat.zero_le _, rfl, Lib.hid (fun j o hj => absurd hj (Nat.not_lt_zero _))⟩
  case round =>
    obtain ⟨k, hk, rfl, he⟩ := hrel
    by_cases hlt : k < all.length
    · obtain ⟨g, o, rfl, hg, hc, ho⟩ := H.out.entry hlt
      obtain ⟨d0, d1, d2, d3, d4⟩ := H.out.at ho
      have HO := Lib.hid ho
      clear d2 d4 ho
      by_cases hr : isRef o s gn
      · obtain ⟨r1, r2, r3⟩ := hr
        have HF : Hid (IsFind all s gn (k : Int)) := Lib.hid (.inr ⟨k, o, rfl, HO.out, ⟨r1, r2, r3⟩, he.out⟩)
        rw [r1] at d3
        have k1 : (o.slot == s) = true := beq_iff_eq.2 r2
        have k2 : (o.gen == gn) = true := beq_iff_eq.2 r3
        clear r1 r2 r3 he
        go_wp2_with fail
        go_ret
        exact ⟨⟨_, rfl, HF.out⟩, rfl⟩
      · have HN : Hid (∀ (j : Nat) (o : One), j < k + 1 → all[j]? = some o → ¬ isRef o s gn) := Lib.hid (fun j o' hj ho' => by
          by_cases e : j = k
          · subst e; have := HO.out.symm.trans ho'; simp at this; subst this; exact hr
          · exact he.out j o' (by omega) ho')
        have hor : o.alive = false ∨ (o.alive = true ∧ (o.slot == s) = false) ∨ (o.alive = true ∧ (o.slot == s) = true ∧ (o.gen == gn) = false) := by
          by_cases e1 : o.alive = true
          · by_cases e2 : o.slot = s
            · exact .inr (.inr ⟨e1, beq_iff_eq.2 e2, beq_eq_false_iff_ne.2 (fun e3 => hr ⟨e1, e2, e3⟩)⟩)
            · exact .inr (.inl ⟨e1, beq_eq_false_iff_ne.2 e2⟩)
          · exact .inl (by simpa using e1)
        clear hr he
        rcases hor with h1 | ⟨h1, h2⟩ | ⟨h1, h2, h3⟩
        all_goals
          rw [h1] at d3
          clear h1
          go_wp2_with fail
          go_round
          case rel => exact ⟨k + 1, by omega, by go_num, HN⟩
          case measure => simp only [intOf]; omega
    · have hke : k = all.length := by omega
      subst hke
      have HF : Hid (IsFind all s gn (-1)) := Lib.hid (.inl ⟨rfl, fun j o ho => he.out j o (List.getElem?_eq_some_iff.1 ho).1 ho⟩)
      go_wp2_with fail
      go_ret
      exact ⟨⟨_, rfl, HF.out⟩, rfl⟩

set_option maxHeartbeats 4000000 in
theorem len_ref (w : World) (d : Nat) (slots gens clock : Int) (all : List One) (va : Value) (h : DRep w d slots gens all clock va) (hl : all.length ≤ 1000000000000) :
    Calls Try.prog 23 #[.pointer (some ⟨d, 0, none⟩)] w fun e w' => e = .returned (.int .i64 ((aliveN all all.length : Nat) : Int)) ∧ w' = w := by
  obtain ⟨a, cap, rfl, hm⟩ := own_len h.all
  have x2 := h.blk.cell 2
  simp at x2
  have H := Lib.hid h
  clear h hm
  go_enter Try.func23, Try.ntmps23
  go_wp2_with fail
  go_loop [4, 3] (fun ix nx => ∃ k n : Nat, k ≤ all.length ∧ n ≤ k ∧ ix = .int .i64 k ∧ nx = .int .i64 n ∧ Hid (n = aliveN all k)) (fun ix _ => all.length - (intOf ix).toNat)
  case atStart => exact ⟨0, 0, Nat.zero_le _, Nat.zero_le _, rfl, rfl, rfl⟩
  case round =>
    obtain ⟨k, n, hk, hnk, rfl, rfl, he⟩ := hrel
    by_cases hlt : k < all.length
    · obtain ⟨g, o, rfl, hg, hc, ho⟩ := H.out.entry hlt
      obtain ⟨d0, d1, d2, d3, d4⟩ := H.out.at ho
      have HO := Lib.hid ho
      clear d0 d1 d2 d4 ho
      cases ha : o.alive with
      | true =>
        rw [ha] at d3
        have HN : Hid (n + 1 = aliveN all (k + 1)) := Lib.hid (by rw [aliveN_yes HO.out ha, he.out])
        clear ha he
        go_wp2_with fail
        go_round
        case rel => exact ⟨k + 1, n + 1, by omega, by omega, by go_num, by go_num, HN⟩
        case measure => simp only [intOf]; omega
      | false =>
        rw [ha] at d3
        have HN : Hid (n = aliveN all (k + 1)) := Lib.hid (by rw [aliveN_no HO.out ha]; exact he.out)
        clear ha he
        go_wp2_with fail
        go_round
        case rel => exact ⟨k + 1, n, by omega, by omega, by go_num, by go_num, HN⟩
        case measure => simp only [intOf]; omega
    · have hke : k = all.length := by omega
      subst hke
      go_wp2_with fail
      go_ret
      exact ⟨retI (by rw [he.out]), rfl⟩
end Go.Proofs.Ytppoakomeaamhaa
