/- The arena of ints: Take, New, Len, Room. -/
import Derived.Test.YtppoakomeaamhaaArC
namespace Go.Proofs.Ytppoakomeaamhaa
open Go.RowKit

theorem Try.infoSlot : (Try.prog.info? 65).map (fun i => (i.zero, i.size, i.bytes)) = some (some (.agg #[.int .i64 0, .bool false, .int .i64 0]), 3, 24) := by kernel_rfl

set_option maxHeartbeats 400000 in
theorem good_any (s g : Int) (w : World) :
    Calls Try.prog 11 #[.int .i64 s, .int .i64 g] w fun e w' => e = .returned (.bool (goodB s g)) ∧ w = w' := by
  by_cases h1 : 1 ≤ s <;> by_cases h2 : s ≤ 1048576 <;> by_cases h3 : 1 ≤ g <;> by_cases h4 : g ≤ 1073741824
  all_goals
    go_enter Try.func11, Try.ntmps11
    go_wp2
    go_ret
    exact ⟨by simp [goodB, *], rfl⟩

theorem empty_rep (w : World) (T E : TypeId) (s g : Int) : ARep (w.alloc (.cells #[.int .i64 s, .int .i64 g, .slice none 0 0, .slice none 0 0, .int .i64 0] T)) T E w.heap.size s g [] [] 0 (.slice none 0 0) (.slice none 0 0) :=
  ⟨Blk.new _ _ _, World.ownsRow_nil _ _ _ _, World.ownsRow_nil _ _ _ _⟩

set_option maxHeartbeats 400000 in
theorem new_good (s g : Int) (w : World) (h1 : 1 ≤ s) (h2 : s ≤ 1048576) (h3 : 1 ≤ g) (h4 : g ≤ 1073741824) :
    Calls Try.prog 14 #[.int .i64 s, .int .i64 g] w fun e w' => e = .returned (.tuple #[.pointer (some ⟨w.heap.size, 0, none⟩), .int .i64 0]) ∧
      w' = w.alloc (.cells #[.int .i64 s, .int .i64 g, .slice none 0 0, .slice none 0 0, .int .i64 0] 61) := by
  go_enter Try.func14, Try.ntmps14
  go_wp2
  go_ret2
  exact ⟨rfl, rfl⟩

set_option maxHeartbeats 400000 in
theorem new_bad (s g : Int) (w : World) (h : goodB s g = false) :
    Calls Try.prog 14 #[.int .i64 s, .int .i64 g] w fun e w' => e = .returned (.tuple #[.pointer none, .int .i64 30]) ∧ w = w' := by
  have hx : ¬ (1 ≤ s ∧ s ≤ 1048576 ∧ 1 ≤ g ∧ g ≤ 1073741824) := by simpa [goodB] using h
  clear h
  by_cases h1 : 1 ≤ s <;> by_cases h2 : s ≤ 1048576 <;> by_cases h3 : 1 ≤ g <;> by_cases h4 : g ≤ 1073741824
  all_goals first
    | (exfalso; exact hx ⟨h1, h2, h3, h4⟩)
    | (clear hx
       go_enter Try.func14, Try.ntmps14
       go_wp2
       go_ret2
       exact ⟨rfl, rfl⟩)

set_option maxHeartbeats 400000 in
theorem len_any (w : World) (p : Nat) (most gens : Int) (sl : List Slot) (fr : List Int) (live : Int) (vs vf : Value)
    (h : ARep w 61 65 p most gens sl fr live vs vf) :
    Calls Try.prog 17 #[.pointer (some ⟨p, 0, none⟩)] w fun e w' => e = .returned (.int .i64 live) ∧ w = w' := by
  have c4 := h.blk.cell 4
  simp at c4
  go_enter Try.func17, Try.ntmps17
  go_wp2
  go_ret
  exact ⟨rfl, rfl⟩

set_option maxHeartbeats 400000 in
theorem room_any (w : World) (p : Nat) (most gens : Int) (sl : List Slot) (fr : List Int) (live : Int) (vs vf : Value)
    (h : ARep w 61 65 p most gens sl fr live vs vf) (hm0 : 0 ≤ most) (hm1 : most ≤ 100000000) (hs : sl.length ≤ 100000000) (hf : fr.length ≤ 100000000) :
    Calls Try.prog 21 #[.pointer (some ⟨p, 0, none⟩)] w fun e w' => e = .returned (.int .i64 (most - sl.length + fr.length)) ∧ Below w.heap.size w w' := by
  obtain ⟨a1, cap1, rfl, _⟩ := h.len
  obtain ⟨a2, cap2, rfl, _⟩ := h.flen
  have c0 := h.blk.cell 0
  have c2 := h.blk.cell 2
  have c3 := h.blk.cell 3
  simp at c0 c2 c3
  go_enter Try.func21, Try.ntmps21
  go_wp2
  go_quiet (fail)
  go_wp2
  go_ret
  exact ⟨rfl, bdrewN (Below.refl _ _) _⟩

set_option maxHeartbeats 400000 in
theorem take_full (w : World) (p : Nat) (most gens : Int) (sl : List Slot) (live : Int) (vs vf : Value) (v : Int)
    (h : ARep w 61 65 p most gens sl [] live vs vf) (hfull : most ≤ sl.length) :
    Calls Try.prog 16 #[.pointer (some ⟨p, 0, none⟩), .int .i64 v] w fun e w' => e = .returned (.tuple #[.agg #[.int .i64 0, .int .i64 0], .int .i64 31]) ∧ Below w.heap.size w w' := by
  obtain ⟨a1, cap1, rfl, _⟩ := h.len
  obtain ⟨a2, cap2, rfl, _⟩ := h.flen
  have c0 := h.blk.cell 0
  have c2 := h.blk.cell 2
  have c3 := h.blk.cell 3
  simp at c0 c2 c3
  have hlt := h.blk.lt
  have hd : decide ((sl.length : Int) < most) = false := by simp; omega
  go_enter Try.func16, Try.ntmps16
  go_wp2
  exact bodyPost_ret (v := .tuple #[.agg #[.int .i64 0, .int .i64 0], .int .i64 31]) (by simp [results, Try.results16, go_sem]) rfl ⟨rfl, by repeat (first | exact Below.refl _ _ | refine balloc ?_ _)⟩
end Go.Proofs.Ytppoakomeaamhaa
