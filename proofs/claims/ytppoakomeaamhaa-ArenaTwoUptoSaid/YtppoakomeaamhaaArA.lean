/- The arena of ints, walked: New, find, At, Put, Give, Take, Len, Room. -/
import Derived.Test.YtppoakomeaamhaaProg
import Derived.Test.YtppoakomeaamhaaMod
import Derived.WalkSpells
import Derived.WalkLawsBesides
import Derived.Deep.QuietTactic
import Derived.BigQuiet
import Derived.Lib.Hide
import Derived.Deep.AppendLies
import Derived.Deep.RegionLaw
namespace Go.Proofs.Ytppoakomeaamhaa
open Go.RowKit

structure Slot where
  gen : Int
  alive : Bool
  thing : Value

def sc (s : Slot) : List Value := [.int .i64 s.gen, .bool s.alive, s.thing]

theorem flat_len (sl : List Slot) : (sl.flatMap sc).length = sl.length * 3 := by
  induction sl with
  | nil => rfl
  | cons a l ih => simp [List.flatMap_cons, sc, ih]; omega

theorem flat_at (sl : List Slot) (i : Nat) (s : Slot) (h : sl[i]? = some s) :
    (sl.flatMap sc)[i * 3]? = some (.int .i64 s.gen) ∧ (sl.flatMap sc)[i * 3 + 1]? = some (.bool s.alive) ∧ (sl.flatMap sc)[i * 3 + 2]? = some s.thing := by
  induction sl generalizing i with
  | nil => simp at h
  | cons a l ih =>
    cases i with
    | zero => simp at h; subst h; simp [List.flatMap_cons, sc]
    | succ i =>
      have := ih i (by simpa using h)
      simp only [List.flatMap_cons, sc]
      have e1 : (i + 1) * 3 = i * 3 + 3 := by omega
      rw [e1]
      simpa using this

structure ARep (w : World) (T E : TypeId) (p : Nat) (most gens : Int) (sl : List Slot) (fr : List Int) (live : Int) (vs vf : Value) : Prop where
  blk : Blk w p T #[.int .i64 most, .int .i64 gens, vs, vf, .int .i64 live]
  slots : w.ownsRow 0 E 3 vs sl.length (sl.flatMap sc)
  frees : w.ownsRow 0 3 1 vf fr.length (fr.map (Value.int .i64))

/-- The slots' row, where there is a slot. -/
theorem ARep.row {w : World} {T E : TypeId} {p : Nat} {most gens : Int} {sl : List Slot} {fr : List Int} {live : Int} {vs vf : Value} (h : ARep w T E p most gens sl fr live vs vf)
    {i : Nat} {s : Slot} (hi : sl[i]? = some s) : ∃ g cap, vs = .slice (some ⟨g, 0, none⟩) sl.length cap ∧ sl.length ≤ cap ∧ cap ≤ maxLen ∧
      w.cell? ⟨g, i * 3, none⟩ = some (.int .i64 s.gen) ∧ w.cell? ⟨g, i * 3 + 1, none⟩ = some (.bool s.alive) ∧ w.cell? ⟨g, i * 3 + 2, none⟩ = some s.thing := by
  have hs := h.slots
  rcases hs.2 with ⟨_, h0⟩ | ⟨g, cap, cur, rfl, _, hg, hnc, hcm, _⟩
  · have : sl = [] := List.eq_nil_of_length_eq_zero h0
    subst this; simp at hi
  · have hl : i < sl.length := (List.getElem?_eq_some_iff.1 hi).1
    obtain ⟨h1, h2, h3⟩ := flat_at sl i s hi
    exact ⟨g, cap, rfl, hnc, hcm, (hs.cellAt _ (by omega)).trans h1, (hs.cellAt _ (by omega)).trans h2, (hs.cellAt _ (by omega)).trans h3⟩

theorem ARep.len {w : World} {T E : TypeId} {p : Nat} {most gens : Int} {sl : List Slot} {fr : List Int} {live : Int} {vs vf : Value} (h : ARep w T E p most gens sl fr live vs vf) :
    ∃ (a : Option Addr) (cap : Nat), vs = .slice a sl.length cap ∧ sl.length ≤ maxLen := by
  rcases h.slots.2 with ⟨rfl, h0⟩ | ⟨g, cap, cur, rfl, _, hg, hnc, hcm, _⟩
  · exact ⟨none, 0, by rw [h0], by rw [h0]; exact Nat.zero_le _⟩
  · exact ⟨_, cap, rfl, Nat.le_trans hnc hcm⟩

def goodB (s g : Int) : Bool := decide (1 ≤ s ∧ s ≤ 1048576 ∧ 1 ≤ g ∧ g ≤ 1073741824)

set_option maxHeartbeats 400000 in
theorem find_range (w : World) (p : Nat) (most gens : Int) (sl : List Slot) (fr : List Int) (live : Int) (vs vf : Value)
    (h : ARep w 61 65 p most gens sl fr live vs vf) (slot gen : Int) (ho : slot < 0 ∨ (sl.length : Int) ≤ slot) :
    Calls Try.prog 27 #[.pointer (some ⟨p, 0, none⟩), .agg #[.int .i64 slot, .int .i64 gen]] w fun e w' => e = .returned (.pointer none) ∧ Below w.heap.size w w' := by
  obtain ⟨a, cap, rfl, hm⟩ := h.len
  have hc := h.blk.cell 2
  simp at hc
  have hlt := h.blk.lt
  unfold maxLen at hm
  by_cases h1 : slot < 0
  · go_enter Try.func27, Try.ntmps27
    go_wp2
    go_quiet (fail)
    go_wp2
    go_ret
    exact ⟨rfl, bdrewN (balloc (Below.refl _ _) _) _⟩
  · have h2 : (sl.length : Int) ≤ slot := by omega
    have h1' : decide (slot < 0) = false := by simpa using h1
    go_enter Try.func27, Try.ntmps27
    go_wp2
    go_quiet (fail)
    go_wp2
    go_ret
    exact ⟨rfl, bdrewN (balloc (Below.refl _ _) _) _⟩

set_option maxHeartbeats 400000 in
theorem find_yes (w : World) (p : Nat) (most gens : Int) (sl : List Slot) (fr : List Int) (live : Int) (g cap : Nat) (vf : Value)
    (h : ARep w 61 65 p most gens sl fr live (.slice (some ⟨g, 0, none⟩) sl.length cap) vf) (i : Nat) (s : Slot) (hi : sl[i]? = some s) (ha : s.alive = true) (gen : Int) (hg : s.gen = gen) :
    Calls Try.prog 27 #[.pointer (some ⟨p, 0, none⟩), .agg #[.int .i64 i, .int .i64 gen]] w fun e w' => e = .returned (.pointer (some ⟨g, i * 3, none⟩)) ∧ Below w.heap.size w w' := by
  obtain ⟨g', cap', he, hcap, hm, c0, c1, c2⟩ := h.row hi
  have hl : i < sl.length := (List.getElem?_eq_some_iff.1 hi).1
  simp at he
  obtain ⟨rfl, rfl⟩ := he
  subst hg
  rw [ha] at c1
  have hc := h.blk.cell 2
  simp at hc
  have hlt := h.blk.lt
  have hgl := World.block_lt_of_cell? w _ c0
  simp at hgl
  unfold maxLen at hm
  have hd : decide ((i : Int) < 0) = false := by simp
  have hd2 : decide ((sl.length : Int) ≤ (i : Int)) = false := by simp; omega
  have hd3 : decide (sl.length ≤ i) = false := by simp; omega
  clear hi
  go_enter Try.func27, Try.ntmps27
  go_wp2
  go_quiet (fail)
  go_wp2
  go_quiet (fail)
  go_wp2
  go_quiet (fail)
  go_wp2
  go_ret
  exact ⟨rfl, bdrewN (bdrewN (bdrewN (balloc (Below.refl _ _) _) _) _) _⟩

set_option maxHeartbeats 400000 in
theorem find_dead (w : World) (p : Nat) (most gens : Int) (sl : List Slot) (fr : List Int) (live : Int) (vs vf : Value)
    (h : ARep w 61 65 p most gens sl fr live vs vf) (i : Nat) (s : Slot) (hi : sl[i]? = some s) (gen : Int) (ha : s.alive = false ∨ s.gen ≠ gen) :
    Calls Try.prog 27 #[.pointer (some ⟨p, 0, none⟩), .agg #[.int .i64 i, .int .i64 gen]] w fun e w' => e = .returned (.pointer none) ∧ Below w.heap.size w w' := by
  obtain ⟨g, cap, rfl, hcap, hm, c0, c1, c2⟩ := h.row hi
  have hl : i < sl.length := (List.getElem?_eq_some_iff.1 hi).1
  have hc := h.blk.cell 2
  simp at hc
  have hlt := h.blk.lt
  have hgl := World.block_lt_of_cell? w _ c0
  simp at hgl
  unfold maxLen at hm
  have hd : decide ((i : Int) < 0) = false := by simp
  have hd2 : decide ((sl.length : Int) ≤ (i : Int)) = false := by simp; omega
  have hd3 : decide (sl.length ≤ i) = false := by simp; omega
  clear hi
  cases hal : s.alive with
  | false =>
    rw [hal] at c1
    clear ha hal
    go_enter Try.func27, Try.ntmps27
    go_wp2
    go_quiet (fail)
    go_wp2
    go_quiet (fail)
    go_wp2
    go_quiet (fail)
    go_wp2
    go_ret
    exact ⟨rfl, bdrewN (bdrewN (bdrewN (balloc (Below.refl _ _) _) _) _) _⟩
  | true =>
    rw [hal] at c1
    have hne : (s.gen == gen) = false := by
      rcases ha with ha | ha
      · rw [hal] at ha; cases ha
      · simpa using ha
    clear ha hal
    go_enter Try.func27, Try.ntmps27
    go_wp2
    go_quiet (fail)
    go_wp2
    go_quiet (fail)
    go_wp2
    go_quiet (fail)
    go_wp2
    go_ret
    exact ⟨rfl, bdrewN (bdrewN (bdrewN (balloc (Below.refl _ _) _) _) _) _⟩

/-- Is the reference alive? -/
def hit (sl : List Slot) (slot gen : Int) : Prop := ∃ (i : Nat) (s : Slot), slot = i ∧ sl[i]? = some s ∧ s.alive = true ∧ s.gen = gen

theorem find_no (w : World) (p : Nat) (most gens : Int) (sl : List Slot) (fr : List Int) (live : Int) (vs vf : Value)
    (h : ARep w 61 65 p most gens sl fr live vs vf) (slot gen : Int) (hn : ¬ hit sl slot gen) :
    Calls Try.prog 27 #[.pointer (some ⟨p, 0, none⟩), .agg #[.int .i64 slot, .int .i64 gen]] w fun e w' => e = .returned (.pointer none) ∧ Below w.heap.size w w' := by
  by_cases hr : slot < 0 ∨ (sl.length : Int) ≤ slot
  · exact find_range w p most gens sl fr live vs vf h slot gen hr
  · obtain ⟨i, rfl⟩ := Int.eq_ofNat_of_zero_le (show 0 ≤ slot by omega)
    have hl : i < sl.length := by omega
    refine find_dead w p most gens sl fr live vs vf h i sl[i] (List.getElem?_eq_getElem hl) gen ?_
    by_cases ha : sl[i].alive = true
    · right; intro hg; exact hn ⟨i, sl[i], rfl, List.getElem?_eq_getElem hl, ha, hg⟩
    · left; simpa using ha

theorem ARep.keep {w w' : World} {T E : TypeId} {p : Nat} {most gens : Int} {sl : List Slot} {fr : List Int} {live : Int} {vs vf : Value} (h : ARep w T E p most gens sl fr live vs vf)
    (hb : Below w.heap.size w w') : ARep w' T E p most gens sl fr live vs vf :=
  have hm : Mod (fun _ => False) w w' := Mod.ofBelow hb
  ⟨h.blk.mod hm (fun f => f), hm.ownsRow h.slots (fun _ _ f => f), hm.ownsRow h.frees (fun _ _ f => f)⟩

set_option maxHeartbeats 400000 in
theorem at_no (w : World) (p : Nat) (most gens : Int) (sl : List Slot) (fr : List Int) (live : Int) (vs vf : Value)
    (h : ARep w 61 65 p most gens sl fr live vs vf) (slot gen : Int) (hn : ¬ hit sl slot gen) :
    Calls Try.prog 18 #[.pointer (some ⟨p, 0, none⟩), .agg #[.int .i64 slot, .int .i64 gen]] w fun e w' => e = .returned (.tuple #[.int .i64 0, .int .i64 32]) ∧ Below w.heap.size w w' := by
  have hlt := h.blk.lt
  go_enter Try.func18, Try.ntmps18
  go_wp2_with fail
  refine (find_no _ p most gens sl fr live vs vf (h.keep (balloc (Below.refl _ _) _)) slot gen hn).mono ?_
  rintro e w' ⟨rfl, hb⟩
  go_wp2_with fail
  go_ret2
  exact ⟨rfl, (balloc (Below.refl _ _) _).trans (hb.mono (by simp))⟩

set_option maxHeartbeats 400000 in
theorem at_yes (w : World) (p : Nat) (most gens : Int) (sl : List Slot) (fr : List Int) (live : Int) (vs vf : Value)
    (h : ARep w 61 65 p most gens sl fr live vs vf) (i : Nat) (s : Slot) (hi : sl[i]? = some s) (ha : s.alive = true) (gen : Int) (hg : s.gen = gen) :
    Calls Try.prog 18 #[.pointer (some ⟨p, 0, none⟩), .agg #[.int .i64 i, .int .i64 gen]] w fun e w' => e = .returned (.tuple #[s.thing, .int .i64 0]) ∧ Below w.heap.size w w' := by
  have hlt := h.blk.lt
  obtain ⟨g, cap, rfl, hcap, hm, c0, c1, c2⟩ := h.row hi
  have hgl := World.block_lt_of_cell? w _ c0
  simp at hgl
  go_enter Try.func18, Try.ntmps18
  go_wp2_with fail
  refine (find_yes _ p most gens sl fr live g cap vf (h.keep (balloc (Below.refl _ _) _)) i s hi ha gen hg).mono ?_
  rintro e w' ⟨rfl, hb⟩
  have hb2 := (balloc (Below.refl _ _) _).trans (hb.mono (B' := w.heap.size) (by simp))
  have k2 := (hb2.cell (p := ⟨g, i * 3 + 2, none⟩) hgl).trans c2
  go_wp2_with fail
  go_ret2
  exact ⟨rfl, hb2⟩
end Go.Proofs.Ytppoakomeaamhaa
