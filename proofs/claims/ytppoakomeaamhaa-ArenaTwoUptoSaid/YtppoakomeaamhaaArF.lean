/- The arena of ints: Take where one slot is free. -/
import Derived.Test.YtppoakomeaamhaaArE
namespace Go.Proofs.Ytppoakomeaamhaa
open Go.RowKit

theorem ARep.frow {w : World} {T E : TypeId} {p : Nat} {most gens : Int} {sl : List Slot} {fr : List Int} {live : Int} {vs vf : Value} {i : Int} (h : ARep w T E p most gens sl (fr ++ [i]) live vs vf) :
    ∃ g cap, vf = .slice (some ⟨g, 0, none⟩) (fr.length + 1) cap ∧ fr.length + 1 ≤ cap ∧ cap ≤ maxLen ∧ g < w.heap.size ∧ w.cell? ⟨g, fr.length, none⟩ = some (.int .i64 i) := by
  have hs := h.frees
  rcases hs.2 with ⟨_, h0⟩ | ⟨g, cap, cur, rfl, _, hg, hnc, hcm, _⟩
  · simp at h0
  · refine ⟨g, cap, by simp, by simpa using hnc, hcm, (Array.getElem?_eq_some_iff.1 hg).1, (hs.cellAt _ (by simp)).trans (by simp)⟩

/-- One free slot fewer. -/
theorem ARep.popFree {w : World} {T E : TypeId} {p : Nat} {most gens : Int} {sl : List Slot} {fr : List Int} {live : Int} {vs : Value} {i : Int} {g cap : Nat} (h : ARep w T E p most gens sl (fr ++ [i]) live vs (.slice (some ⟨g, 0, none⟩) (fr.length + 1) cap)) (hTE : E ≠ T) (hT : 3 ≠ T) :
    ARep (w.setCell ⟨p, 3, none⟩ (.slice (some ⟨g, 0, none⟩) fr.length cap)) T E p most gens sl fr live vs (.slice (some ⟨g, 0, none⟩) fr.length cap) := by
  have hg2 : w.grownBy (w.setCell ⟨p, 3, none⟩ (.slice (some ⟨g, 0, none⟩) fr.length cap)) (some p) := ⟨rfl, rfl, rfl, by simp, fun k _ hk => heap_setCell_other w ⟨p, 3, none⟩ k _ (fun e => hk (by simp [e]))⟩
  have hf := h.frees
  have hp := h.pvf hT
  have hown : w.ownsRow 0 3 1 (.slice (some ⟨g, 0, none⟩) fr.length cap) fr.length (fr.map (Value.int .i64)) := by
    rcases hf.2 with ⟨h0, _⟩ | ⟨g', cap', cur, h0, hb, hg, hnc, hcm, hcs, htake⟩
    · cases h0
    · simp only [Value.slice.injEq, Option.some.injEq, Addr.mk.injEq, and_true] at h0
      obtain ⟨rfl, _, rfl⟩ := h0
      refine ⟨by simp, .inr ⟨g, cap, cur, rfl, hb, hg, by simp at hnc; omega, hcm, hcs, ?_⟩⟩
      have := congrArg (List.take fr.length) htake
      simpa [List.take_take, Nat.min_eq_left] using this
  exact ⟨by simpa using h.blk.set_ 3 _, h.slots.kept hg2 (.inr (h.pvs hTE)), hown.kept hg2 (.inr (by simpa [Value.ownBlock] using hp))⟩

/-- A slot taken anew. -/
def anew (s : Slot) (v : Value) : Slot := ⟨s.gen + 1, true, v⟩

set_option maxHeartbeats 2000000 in
theorem take_free (w : World) (p : Nat) (most gens : Int) (sl : List Slot) (fr : List Int) (live : Int) (vs vf : Value) (i : Nat) (s : Slot) (hi : sl[i]? = some s) (v : Int)
    (h : ARep w 61 65 p most gens sl (fr ++ [(i : Int)]) live vs vf) (hg0 : 0 ≤ s.gen) (hg1 : s.gen ≤ 9000000000) (hm0 : 0 ≤ live) (hm1 : live ≤ 9000000000) :
    Calls Try.prog 16 #[.pointer (some ⟨p, 0, none⟩), .int .i64 v] w fun e w' => e = .returned (.tuple #[.agg #[.int .i64 i, .int .i64 (s.gen + 1)], .int .i64 0]) ∧
      ∃ vf', ANow w w' 61 65 p most gens (sl.set i (anew s (.int .i64 v))) fr (live + 1) vs vf vs vf' := by
  obtain ⟨g, cap, rfl, hcap, hm, k0, k1, k2⟩ := h.row hi
  obtain ⟨gf, capf, rfl, hcapf, hmf, hgf, kf⟩ := h.frow
  have hl : i < sl.length := (List.getElem?_eq_some_iff.1 hi).1
  have hgl := World.block_lt_of_cell? w _ k0
  simp at hgl
  have c2 := h.blk.cell 2
  have c3 := h.blk.cell 3
  have c4 := h.blk.cell 4
  simp at c2 c3 c4
  have y3 := h.blk.frozen 3
  have y4 := h.blk.frozen 4
  have f0 := h.frozen (i * 3)
  have f1 := h.frozen (i * 3 + 1)
  have f2 := h.frozen (i * 3 + 2)
  have hlt := h.blk.lt
  have hgp : g ≠ p := fun e => h.pvs (by decide) (by simp [Value.ownBlock, e])
  have hpg : p ≠ g := fun e => hgp e.symm
  have hfp : gf ≠ p := fun e => h.pvf (by decide) (by simp [Value.ownBlock, e])
  have hpf : p ≠ gf := fun e => hfp e.symm
  have hrp : w.heap.size ≠ p := by omega
  have hrg : w.heap.size ≠ g := by omega
  have HA := Lib.hid h
  have HI := Lib.hid hi
  clear h hi
  unfold maxLen at hm hmf
  go_enter Try.func16, Try.ntmps16
  go_wp2_with fail
  go_quiet (fail)
  go_wp2_with fail
  go_region
  all_goals
    go_wp2_with fail
    refine bodyPost_ret (v := .tuple #[.agg #[.int .i64 i, .int .i64 (s.gen + 1)], .int .i64 0]) (by simp [results, Try.results16, go_sem, *]) rfl ⟨rfl, .slice (some ⟨gf, 0, none⟩) fr.length capf, ?_⟩
    have hi := HI.out
    obtain ⟨e0, e1, e2⟩ := flat_at sl i s hi
    have hb : Below w.heap.size w ((w.alloc (.cells #[.int .i64 0, .int .i64 0] 40)).drewN (nq + 1)) := bdrewN (balloc (Below.refl _ _) _) _
    have rB := (((((HA.out.keep hb).popFree (by decide) (by decide)).setSlot (by decide) (by decide) (i * 3) (.int .i64 (s.gen + 1)) (sl.set i ⟨s.gen + 1, s.alive, s.thing⟩) (by simp) (by
        rw [flat_set sl i _ hl, List.set_comm _ _ (show i * 3 ≠ i * 3 + 1 by omega), set_same _ _ _ e1, List.set_comm _ _ (show i * 3 ≠ i * 3 + 2 by omega), set_same _ _ _ e2])).setSlot (by decide) (by decide) (i * 3 + 1) (.bool true) (sl.set i ⟨s.gen + 1, true, s.thing⟩) (by simp) (by
        rw [flat_set sl i _ hl, flat_set sl i _ hl, List.set_comm _ _ (show i * 3 + 1 ≠ i * 3 + 2 by omega), List.set_comm _ _ (show i * 3 ≠ i * 3 + 2 by omega), set_same _ _ _ e2, List.set_comm _ _ (show i * 3 + 1 ≠ i * 3 + 2 by omega), List.set_comm _ _ (show i * 3 ≠ i * 3 + 2 by omega), set_same _ _ _ e2, List.set_set])).setSlot (by decide) (by decide) (i * 3 + 2) (.int .i64 v) (sl.set i (anew s (.int .i64 v))) (by simp) (by
        rw [flat_set sl i _ hl, flat_set sl i _ hl]; simp only [anew, List.set_set])).setLive (by decide) (by decide) (live + 1)
    have rC := rB.mod (F := fun k => k = w.heap.size) (((Mod.refl (fun k => k = w.heap.size) _).setCell (p := ⟨w.heap.size, 0, none⟩) (fun _ => rfl) (.int .i64 i)).setCell (p := ⟨w.heap.size, 1, none⟩) (fun _ => rfl) (.int .i64 (s.gen + 1))) (by
      rintro k (rfl | hk | hk) hk2
      · omega
      · simp [Value.ownBlock] at hk; omega
      · simp [Value.ownBlock] at hk; omega)
    refine ⟨rC, ?_, ?_⟩
    · have hF : ∀ q : Addr, (q.block = p ∨ q.block = g ∨ q.block = w.heap.size) → q.block < w.heap.size → foot p (.slice (some ⟨g, 0, none⟩) sl.length cap) (.slice (some ⟨gf, 0, none⟩) (fr.length + 1) capf) q.block := by
        rintro q (h | h | h) hl
        · exact .inl h
        · exact .inr (.inl (by rw [h]; rfl))
        · omega
      exact (((((((Mod.ofBelow hb).setCell (p := ⟨p, 3, none⟩) (hF _ (.inl rfl)) (.slice (some ⟨gf, 0, none⟩) fr.length capf)).setCell (p := ⟨g, i * 3, none⟩) (hF _ (.inr (.inl rfl))) (.int .i64 (s.gen + 1))).setCell (p := ⟨g, i * 3 + 1, none⟩) (hF _ (.inr (.inl rfl))) (.bool true)).setCell (p := ⟨g, i * 3 + 2, none⟩) (hF _ (.inr (.inl rfl))) (.int .i64 v)).setCell (p := ⟨p, 4, none⟩) (hF _ (.inl rfl)) (.int .i64 (live + 1))).setCell (p := ⟨w.heap.size, 0, none⟩) (hF _ (.inr (.inr rfl))) (.int .i64 i)).setCell (p := ⟨w.heap.size, 1, none⟩) (hF _ (.inr (.inr rfl))) (.int .i64 (s.gen + 1))
    · intro k hk _
      exact hk
end Go.Proofs.Ytppoakomeaamhaa
