/- osierref01.small, walked. -/
import Derived.Test.YthfibaajmbhdkaaDoorVsh2
import Derived.Lib.ConvBytes
namespace Go.Proofs.YthfibaajmbhdkaaDoor
open Go.RowKit
set_option linter.unusedVariables false

def low (c : UInt8) : UInt8 := if 65 ≤ c.toNat ∧ c.toNat ≤ 70 then c + 32 else c
def lows (l : List UInt8) (k : Nat) : List UInt8 := (l.take k).map low ++ l.drop k

/-- A converted text's row, its first four bytes. -/
def SmR (w : World) (g : Nat) (l : List UInt8) : Prop :=
  ∃ cs : Array Value, w.heap[g]? = some (.cells cs 5 (cs.size, cs.size + 1)) ∧ 4 ≤ cs.size ∧ ∀ j, j < 4 → cs[j]? = some (.int .u8 ((l.getD j 0).toNat : Int))

theorem SmR.cell {w : World} {g : Nat} {l : List UInt8} (h : SmR w g l) {j : Nat} (hj : j < 4) : w.cell? ⟨g, j, none⟩ = some (.int .u8 ((l.getD j 0).toNat : Int)) := by
  obtain ⟨cs, h1, h2, h3⟩ := h
  rw [cell_of_row w g j cs _ _ h1]
  exact h3 j hj
theorem SmR.frozen {w : World} {g : Nat} {l : List UInt8} (h : SmR w g l) {j : Nat} (hj : j < 4) : w.frozen? ⟨g, j, none⟩ = false := by
  obtain ⟨cs, h1, h2, h3⟩ := h
  simp [World.frozen?, h1]
  omega
theorem SmR.set_ {w : World} {g : Nat} {l l' : List UInt8} (h : SmR w g l) {j : Nat} {u : Value} (hj : j < 4) (hu : u = .int .u8 ((l'.getD j 0).toNat : Int)) (hl : ∀ i, i < 4 → i ≠ j → l'.getD i 0 = l.getD i 0) : SmR (w.setCell ⟨g, j, none⟩ u) g l' := by
  obtain ⟨cs, h1, h2, h3⟩ := h
  refine ⟨cs.setIfInBounds j u, ?_, by simpa using h2, fun i hi => ?_⟩
  · simp [World.setCell, Array.getElem?_modify, h1]
  · rw [Array.getElem?_setIfInBounds]
    by_cases e : j = i
    · subst e
      rw [if_pos rfl, if_pos (by omega), hu]
    · rw [if_neg e, hl i hi (fun k => e k.symm)]
      exact h3 i hi
theorem SmR.lt {w : World} {g : Nat} {l : List UInt8} (h : SmR w g l) : g < w.heap.size := by
  obtain ⟨cs, h1, _⟩ := h
  rcases Nat.lt_or_ge g w.heap.size with hlt | hge
  · exact hlt
  · rw [Array.getElem?_eq_none hge] at h1; cases h1

theorem below_bytes (w : World) (e : TypeId) (s : ByteArray) : Below w.heap.size w (Lib.bytesWorld w e s) :=
  ⟨rfl, rfl, rfl, by rw [Lib.bytesWorld_size]; omega, fun k hk => Lib.bytesWorld_at_old w e s k hk⟩

theorem lows_get (l : List UInt8) (k j : Nat) (hj : j < l.length) : (lows l k).getD j 0 = if j < k then low (l.getD j 0) else l.getD j 0 := by
  unfold lows
  simp only [List.getD_eq_getElem?_getD]
  by_cases h : j < k
  · rw [if_pos h, List.getElem?_append_left (by simp; omega)]
    simp [h, hj]
  · rw [if_neg h, List.getElem?_append_right (by simp; omega), List.getElem?_drop]
    congr 2
    simp; omega

set_option maxHeartbeats 4000000 in
set_option maxRecDepth 100000 in
theorem small_any (s : ByteArray) (w : World) (hs : s.size = 4) :
    Calls Tryd.prog 79 #[.string s] w fun e w' => e = .returned (.string ⟨(s.data.toList.map low).toArray⟩) ∧ Below w.heap.size w w' := by
  have hcv := Lib.run_convert_string_bytes (P := Tryd.prog) w 9 63 5 s (u := .string) Tryd.underlying9 Tryd.underlying63 Tryd.underlying5
  have hbe := below_bytes w 5 s
  have hl4 : s.data.toList.length = 4 := hs
  have hcs : (Lib.bytesCells w 5 s).size = 4 + (grownCap w s.size 0 5 - s.size) := by
    have : s.data.size = 4 := hs
    simp [Lib.bytesCells, this]
  have hR : SmR (Lib.bytesWorld w 5 s) w.heap.size (lows s.data.toList 0) := by
    refine ⟨_, Lib.bytesWorld_at_new w 5 s, by omega, fun j hj => ?_⟩
    have h := Lib.bytesWorld_cell w 5 s j (by omega)
    rw [cell_of_row _ _ j _ _ _ (Lib.bytesWorld_at_new w 5 s)] at h
    rw [h]
    simp [lows]
  have hz := Lib.bytesWorld_size w 5 s
  rw [hs] at hcv
  generalize Lib.bytesWorld w 5 s = W1 at *
  generalize grownCap w 4 0 5 = cap at *
  have HB := Lib.hid hbe
  have HR := Lib.hid hR
  have HL := Lib.hid hl4
  clear hbe hR hl4 hcs
  go_enter Tryd.func79, Tryd.ntmps79
  go_wp2_with fail
  go_loopw [9] (fun ix wr => ∃ k : Nat, k ≤ 4 ∧ ix = .int .i64 k ∧ Below w.heap.size w wr ∧ SmR wr w.heap.size (lows s.data.toList k)) (fun ix _ => 4 - (intOf ix).toNat)
  case atStart => exact ⟨0, by omega, rfl, HB.out, HR.out⟩
  case round =>
    obtain ⟨k, hk, rfl, hbel, hrow⟩ := hrel
    by_cases hlt : k < 4
    · have c0 := hrow.cell hlt
      have f0 := hrow.frozen hlt
      have hg := lows_get s.data.toList k k (by have := HL.out; omega)
      rw [if_neg (by omega)] at hg
      rw [hg] at c0
      have hcb := (s.data.toList.getD k 0).toNat_lt
      by_cases hc : 65 ≤ (s.data.toList.getD k 0).toNat ∧ (s.data.toList.getD k 0).toNat ≤ 70
      · obtain ⟨hc1, hc2⟩ := hc
        have hnx : SmR (wr.setCell ⟨w.heap.size, k, none⟩ (.int .u8 (((s.data.toList.getD k 0).toNat : Int) + 32))) w.heap.size (lows s.data.toList (k + 1)) := by
          refine hrow.set_ hlt ?_ ?_
          · rw [lows_get _ _ _ (by have := HL.out; omega), if_pos (by omega), low, if_pos ⟨hc1, hc2⟩]
            rw [UInt8.toNat_add]
            congr 1
            have : (32 : UInt8).toNat = 32 := rfl
            omega
          · intro i hi hik
            rw [lows_get _ _ _ (by have := HL.out; omega), lows_get _ _ _ (by have := HL.out; omega)]
            by_cases h : i < k
            · rw [if_pos (by omega), if_pos h]
            · rw [if_neg (by omega), if_neg h]
        have HN := Lib.hid hnx
        have HBL := Lib.hid (show Below w.heap.size w (wr.setCell ⟨w.heap.size, k, none⟩ (.int .u8 (((s.data.toList.getD k 0).toNat : Int) + 32))) from hbel.setCell (by simp) _)
        clear hnx hrow hg hbel
        generalize (s.data.toList.getD k 0).toNat = c at *
        have hc3 : (65 : Int) ≤ c := by omega
        have hc4 : (c : Int) ≤ 70 := by omega
        go_wp2_with fail
        go_round
        case rel => exact ⟨k + 1, by omega, by go_num, HBL.out, HN.out⟩
        case measure => simp [intOf]; omega
      · have hnx : SmR wr w.heap.size (lows s.data.toList (k + 1)) := by
          obtain ⟨cs, h1, h2, h3⟩ := hrow
          refine ⟨cs, h1, h2, fun j hj => ?_⟩
          rw [h3 j hj, lows_get _ _ _ (by have := HL.out; omega), lows_get _ _ _ (by have := HL.out; omega)]
          by_cases h : j = k
          · subst h
            rw [if_neg (by omega), if_pos (by omega), low, if_neg hc]
          · by_cases h : j < k
            · rw [if_pos h, if_pos (by omega)]
            · rw [if_neg h, if_neg (by omega)]
        have HN := Lib.hid hnx
        have HBL := Lib.hid hbel
        clear hnx hrow hg hbel
        generalize (s.data.toList.getD k 0).toNat = c at *
        have hc' : c < 65 ∨ 70 < c := by omega
        clear hc
        rcases hc' with hc' | hc'
        · have hc3 : (c : Int) < 65 := by omega
          go_wp2_with fail
          go_round
          case rel => exact ⟨k + 1, by omega, by go_num, HBL.out, HN.out⟩
          case measure => simp [intOf]; omega
        · have hc3 : (70 : Int) < c := by omega
          have hc4 : (65 : Int) ≤ c := by omega
          go_wp2_with fail
          go_round
          case rel => exact ⟨k + 1, by omega, by go_num, HBL.out, HN.out⟩
          case measure => simp [intOf]; omega
    · have hk4 : k = 4 := by omega
      subst hk4
      have hll : lows s.data.toList 4 = s.data.toList.map low := by
        unfold lows
        rw [List.take_of_length_le (by have := HL.out; omega), List.drop_of_length_le (by have := HL.out; omega), List.append_nil]
      have hcv2 := bytes_conv (P := Tryd.prog) (w := wr) (g := w.heap.size) (n := 4) (cap := cap) (l := s.data.toList.map low) Tryd.underlying63 Tryd.underlying5 Tryd.underlying9 (by rw [Lib.byteCells_length, List.length_map]; exact HL.out) (by
        intro j v hj
        have hjl : j < 4 := by
          have := (List.getElem?_eq_some_iff.1 hj).1
          rw [Lib.byteCells_length, List.length_map] at this
          have := HL.out
          omega
        have h := hrow.cell hjl
        rw [hll] at h
        rw [show (⟨w.heap.size, 0, none⟩ : Addr).add j = ⟨w.heap.size, j, none⟩ by rw [Lib.add_plain]; simp, h]
        rw [← hj]
        simp only [Lib.byteCells, List.getElem?_map, List.getD_eq_getElem?_getD]
        cases hq : s.data.toList[j]? with
        | none => exact absurd (List.getElem?_eq_none_iff.1 hq) (by have := HL.out; omega)
        | some x => rfl)
      have HBL := Lib.hid hbel
      clear hrow hbel
      go_wp2_with fail
      go_ret
      exact ⟨rfl, HBL.out⟩
end Go.Proofs.YthfibaajmbhdkaaDoor
