/- The arena of ints: Give, New, Len, Room. -/
import Derived.Test.YtppoakomeaamhaaArB
namespace Go.Proofs.Ytppoakomeaamhaa
open Go.RowKit

theorem Try.infoInt : (Try.prog.info? 3).map (fun i => (i.zero, i.size, i.bytes)) = some (some (.int .i64 0), 1, 8) := by kernel_rfl

set_option maxHeartbeats 400000 in
theorem give_no (w : World) (p : Nat) (most gens : Int) (sl : List Slot) (fr : List Int) (live : Int) (vs vf : Value)
    (h : ARep w 61 65 p most gens sl fr live vs vf) (slot gen : Int) (hn : ¬ hit sl slot gen) :
    Calls Try.prog 15 #[.pointer (some ⟨p, 0, none⟩), .agg #[.int .i64 slot, .int .i64 gen]] w fun e w' => e = .returned (.int .i64 32) ∧ Below w.heap.size w w' := by
  have hlt := h.blk.lt
  go_enter Try.func15, Try.ntmps15
  go_wp2_with fail
  refine (find_no _ p most gens sl fr live vs vf (h.keep (balloc (Below.refl _ _) _)) slot gen hn).mono ?_
  rintro e w' ⟨rfl, hb⟩
  go_wp2_with fail
  go_ret
  exact ⟨rfl, (balloc (Below.refl _ _) _).trans (hb.mono (by simp))⟩

/-- What Give leaves of a slot. -/
def gone (s : Slot) (z : Value) : Slot := ⟨s.gen, false, z⟩

set_option maxHeartbeats 1000000 in
theorem give_last (w : World) (p : Nat) (most gens : Int) (sl : List Slot) (fr : List Int) (live : Int) (vs vf : Value)
    (h : ARep w 61 65 p most gens sl fr live vs vf) (i : Nat) (s : Slot) (hi : sl[i]? = some s) (ha : s.alive = true) (gen : Int) (hg : s.gen = gen)
    (hm1 : 1 ≤ live) (hm2 : live ≤ 9000000000) (hgen : gens ≤ s.gen) :
    Calls Try.prog 15 #[.pointer (some ⟨p, 0, none⟩), .agg #[.int .i64 i, .int .i64 gen]] w fun e w' => e = .returned (.int .i64 0) ∧
      ANow w w' 61 65 p most gens (sl.set i (gone s (.int .i64 0))) fr (live - 1) vs vf vs vf := by
  have hlt := h.blk.lt
  obtain ⟨g, cap, rfl, hcap, hm, c0, c1, c2⟩ := h.row hi
  have hl : i < sl.length := (List.getElem?_eq_some_iff.1 hi).1
  have hgl := World.block_lt_of_cell? w _ c0
  simp at hgl
  obtain ⟨f0, f1, f2⟩ := flat_at sl i s hi
  have hgp : g ≠ p := fun e => h.pvs (by decide) (by simp [Value.ownBlock, e])
  have hpg : p ≠ g := fun e => hgp e.symm
  go_enter Try.func15, Try.ntmps15
  go_wp2_with fail
  refine (find_yes _ p most gens sl fr live g cap vf (h.keep (balloc (Below.refl _ _) _)) i s hi ha gen hg).mono ?_
  rintro e w' ⟨rfl, hb⟩
  have hb2 := (balloc (Below.refl _ _) _).trans (hb.mono (B' := w.heap.size) (by simp))
  have r2 := h.keep hb2
  have k0 := (hb2.cell (p := ⟨g, i * 3, none⟩) hgl).trans c0
  have k1 := (hb2.cell (p := ⟨g, i * 3 + 1, none⟩) hgl).trans c1
  have k2 := (hb2.cell (p := ⟨g, i * 3 + 2, none⟩) hgl).trans c2
  have z1 := r2.frozen (i * 3 + 1)
  have z2 := r2.frozen (i * 3 + 2)
  have p1 := r2.blk.cell 1
  have p4 := r2.blk.cell 4
  have y4 := r2.blk.frozen 4
  simp at p1 p4
  have r3 : ARep ((((w'.setCell ⟨g, i * 3 + 1, none⟩ (.bool false)).setCell ⟨g, i * 3 + 2, none⟩ (.int .i64 0)).setCell ⟨p, 4, none⟩ (.int .i64 (live - 1)))) 61 65 p most gens (sl.set i (gone s (.int .i64 0))) fr (live - 1) (.slice (some ⟨g, 0, none⟩) sl.length cap) vf := by
    refine ((r2.setSlot (by decide) (by decide) (i * 3 + 1) (.bool false) (sl.set i { s with alive := false }) (by simp) ?_).setSlot (by decide) (by decide) (i * 3 + 2) (.int .i64 0) _ (by simp) ?_).setLive (by decide) (by decide) _
    · rw [flat_set sl i _ hl]
      simp only []
      rw [set_same _ _ _ f0]
      rw [List.set_comm _ _ (by omega), set_same _ _ _ f2]
    · rw [flat_set sl i _ hl, flat_set sl i _ hl]
      simp only [gone, List.set_set]
  have HR := Lib.hid r3
  clear r3
  have hd : decide (s.gen < gens) = false := by simp; omega
  clear hi f0 f1 f2 ha
  go_wp2_with fail
  go_quiet (fail)
  go_wp2_with fail
  go_ret
  have hm' := ((((Mod.ofBelow hb2).setCell (F := foot p (.slice (some ⟨g, 0, none⟩) sl.length cap) vf) (p := ⟨g, i * 3 + 1, none⟩) (fun _ => .inr (.inl rfl)) (.bool false)).setCell (p := ⟨g, i * 3 + 2, none⟩) (fun _ => .inr (.inl rfl)) (.int .i64 0)).setCell (p := ⟨p, 4, none⟩) (fun _ => .inl rfl) (.int .i64 (live - 1)))
  exact ⟨rfl, ⟨HR.out.keep (bdrewN (Below.refl _ _) _), hm'.drewN _, fun k hk _ => hk⟩⟩

set_option maxHeartbeats 1000000 in
theorem give_free (w : World) (p : Nat) (most gens : Int) (sl : List Slot) (fr : List Int) (live : Int) (vs vf : Value)
    (h : ARep w 61 65 p most gens sl fr live vs vf) (i : Nat) (s : Slot) (hi : sl[i]? = some s) (ha : s.alive = true) (gen : Int) (hg : s.gen = gen)
    (hm1 : 1 ≤ live) (hm2 : live ≤ 9000000000) (hgen : s.gen < gens) (hfr : fr.length ≤ 100000000) :
    Calls Try.prog 15 #[.pointer (some ⟨p, 0, none⟩), .agg #[.int .i64 i, .int .i64 gen]] w fun e w' => e = .returned (.int .i64 0) ∧
      ∃ vf', ANow w w' 61 65 p most gens (sl.set i (gone s (.int .i64 0))) (fr ++ [(i : Int)]) (live - 1) vs vf vs vf' := by
  have hlt := h.blk.lt
  obtain ⟨g, cap, rfl, hcap, hm, c0, c1, c2⟩ := h.row hi
  have hl : i < sl.length := (List.getElem?_eq_some_iff.1 hi).1
  have hgl := World.block_lt_of_cell? w _ c0
  simp at hgl
  obtain ⟨f0, f1, f2⟩ := flat_at sl i s hi
  have hgp : g ≠ p := fun e => h.pvs (by decide) (by simp [Value.ownBlock, e])
  have hpg : p ≠ g := fun e => hgp e.symm
  obtain ⟨i0, hi0, hz0, hz1, hz2⟩ := info_parts Try.infoInt
  go_enter Try.func15, Try.ntmps15
  go_wp2_with fail
  refine (find_yes _ p most gens sl fr live g cap vf (h.keep (balloc (Below.refl _ _) _)) i s hi ha gen hg).mono ?_
  rintro e w' ⟨rfl, hb⟩
  have hb1 := hb.cell (p := ⟨w.heap.size, 0, none⟩) (by simp)
  simp at hb1
  have hb2 := (balloc (Below.refl _ _) _).trans (hb.mono (B' := w.heap.size) (by simp))
  have hsz := hb.size
  simp at hsz
  have r2 := h.keep hb2
  have k0 := (hb2.cell (p := ⟨g, i * 3, none⟩) hgl).trans c0
  have k1 := (hb2.cell (p := ⟨g, i * 3 + 1, none⟩) hgl).trans c1
  have k2 := (hb2.cell (p := ⟨g, i * 3 + 2, none⟩) hgl).trans c2
  have z1 := r2.frozen (i * 3 + 1)
  have z2 := r2.frozen (i * 3 + 2)
  have p1 := r2.blk.cell 1
  have p4 := r2.blk.cell 4
  have y4 := r2.blk.frozen 4
  simp at p1 p4
  have r3 : ARep ((((w'.setCell ⟨g, i * 3 + 1, none⟩ (.bool false)).setCell ⟨g, i * 3 + 2, none⟩ (.int .i64 0)).setCell ⟨p, 4, none⟩ (.int .i64 (live - 1)))) 61 65 p most gens (sl.set i (gone s (.int .i64 0))) fr (live - 1) (.slice (some ⟨g, 0, none⟩) sl.length cap) vf := by
    refine ((r2.setSlot (by decide) (by decide) (i * 3 + 1) (.bool false) (sl.set i { s with alive := false }) (by simp) ?_).setSlot (by decide) (by decide) (i * 3 + 2) (.int .i64 0) _ (by simp) ?_).setLive (by decide) (by decide) _
    · rw [flat_set sl i _ hl]
      simp only []
      rw [set_same _ _ _ f0]
      rw [List.set_comm _ _ (by omega), set_same _ _ _ f2]
    · rw [flat_set sl i _ hl, flat_set sl i _ hl]
      simp only [gone, List.set_set]
  have HR := Lib.hid r3
  clear r3
  have hd : decide (s.gen < gens) = true := by simp; omega
  clear hi f0 f1 f2 ha
  go_wp2_with fail
  go_quiet (fail)
  have hm' := ((((Mod.ofBelow hb2).setCell (F := foot p (.slice (some ⟨g, 0, none⟩) sl.length cap) vf) (p := ⟨g, i * 3 + 1, none⟩) (fun _ => .inr (.inl rfl)) (.bool false)).setCell (p := ⟨g, i * 3 + 2, none⟩) (fun _ => .inr (.inl rfl)) (.int .i64 0)).setCell (p := ⟨p, 4, none⟩) (fun _ => .inl rfl) (.int .i64 (live - 1)))
  have hm3 : Mod (fun k => k = g ∨ k = p) w' (((w'.setCell ⟨g, i * 3 + 1, none⟩ (.bool false)).setCell ⟨g, i * 3 + 2, none⟩ (.int .i64 0)).setCell ⟨p, 4, none⟩ (.int .i64 (live - 1))) :=
    (((Mod.refl _ _).setCell (p := ⟨g, i * 3 + 1, none⟩) (fun _ => .inl rfl) _).setCell (p := ⟨g, i * 3 + 2, none⟩) (fun _ => .inl rfl) _).setCell (p := ⟨p, 4, none⟩) (fun _ => .inr rfl) _
  have q0 := (hm3.cell (p := ⟨w.heap.size, 0, none⟩) (show w.heap.size < _ by omega) (show ¬ (w.heap.size = g ∨ w.heap.size = p) by omega)).trans hb1
  have sz : w.heap.size < ((((w'.setCell ⟨g, i * 3 + 1, none⟩ (.bool false)).setCell ⟨g, i * 3 + 2, none⟩ (.int .i64 0)).setCell ⟨p, 4, none⟩ (.int .i64 (live - 1)))).heap.size := by simp; omega
  have HM := Lib.hid hm'
  clear hm' hm3 hb1 k0 k1 k2 z1 z2 p1 p4 y4 c0 c1 c2
  go_wp2_with fail
  generalize (((w'.setCell ⟨g, i * 3 + 1, none⟩ (.bool false)).setCell ⟨g, i * 3 + 2, none⟩ (.int .i64 0)).setCell ⟨p, 4, none⟩ (.int .i64 (live - 1))) = W at *
  have q3 := HR.out.blk.cell 3
  have y3 := HR.out.blk.frozen 3
  simp at q3
  have hfv := HR.out.frees
  have hpv : vf.ownBlock ≠ some p := HR.out.pvf (by decide)
  have hpl := HR.out.blk.lt
  have HF := Lib.hid hfv
  clear hfv
  have bnd : fr.length + 1 ≤ maxLen := by unfold maxLen; omega
  have hpf : some p ≠ vf.ownBlock := fun e => hpv e.symm
  have hx3 : ∀ k o, ((W.drewN k).alloc o).cell? ⟨p, 3, none⟩ = some vf := fun k o => by simpa using ((HR.out.blk.drewN k).alloc o).cell 3
  go_region_law (refine step_append_lies _ rfl (.tmp 39) (.tmp 42) 34 rfl 0 3 i0 (.int .i64 0) 1 8 Try.underlying34 hi0 hz0 hz1 hz2 rfl (by decide) vf fr.length _ rfl (HF.out.alloc _) ⟨W.heap.size, 0, none⟩ 1 1 [.int .i64 (i : Int)] rfl rfl (cell_one_new _ _ _) (by intro u hu; simp at hu; subst hu; rfl) (by decide) bnd (by omega) (Nat.zero_le _) (W.heap.size + 1) (by simp) ?_; intro g1 cap1 w1 hown1 hgrow1 hat1 hlt1; have b1 := ((HR.out.blk.drewN _).alloc _).grown hgrow1 hpf; have e3 := b1.frozen 3; have e4 := b1.cell 3; simp at e4)
  all_goals
    go_wp2_with fail
    go_ret
    have hgW := grown_of_alloc hgrow1
    refine ⟨rfl, .slice (some ⟨g1, 0, none⟩) (fr.length + 1) cap1, ⟨HR.out.setFree (by decide) (by decide) (by decide) hgW (by simpa using hown1), ((HM.out.grown hgW (fun k hk _ => .inr (.inr hk))).setCell (p := ⟨p, 3, none⟩) (fun _ => .inl rfl) _), ?_⟩⟩
    intro k hk hkl
    rcases hk with hk | hk | hk
    · exact .inl hk
    · exact .inr (.inl hk)
    · simp [Value.ownBlock] at hk
      subst hk
      rcases hat1 with hat1 | hat1
      · exact .inr (.inr hat1)
      · omega
end Go.Proofs.Ytppoakomeaamhaa
