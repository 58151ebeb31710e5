/- The arena of strings: find, At, Give, Take, Len, Room. (printed by str.py) -/
import Derived.Test.YtppoakomeaamhaaCl0
namespace Go.Proofs.Ytppoakomeaamhaa.Str
open Go.RowKit

set_option maxHeartbeats 400000 in
theorem find_range (w : World) (p : Nat) (most gens : Int) (sl : List Slot) (fr : List Int) (live : Int) (vs vf : Value)
    (h : ARep w 58 81 p most gens sl fr live vs vf) (slot gen : Int) (ho : slot < 0 ∨ (sl.length : Int) ≤ slot) :
    Calls Try.prog 44 #[.pointer (some ⟨p, 0, none⟩), .agg #[.int .i64 slot, .int .i64 gen]] w fun e w' => e = .returned (.pointer none) ∧ Below w.heap.size w w' := by
  obtain ⟨a, cap, rfl, hm⟩ := h.len
  have hc := h.blk.cell 2
  simp at hc
  have hlt := h.blk.lt
  unfold maxLen at hm
  by_cases h1 : slot < 0
  · go_enter Try.func44, Try.ntmps44
    go_wp2
    go_quiet (fail)
    go_wp2
    go_ret
    exact ⟨rfl, bdrewN (balloc (Below.refl _ _) _) _⟩
  · have h2 : (sl.length : Int) ≤ slot := by omega
    have h1' : decide (slot < 0) = false := by simpa using h1
    go_enter Try.func44, Try.ntmps44
    go_wp2
    go_quiet (fail)
    go_wp2
    go_ret
    exact ⟨rfl, bdrewN (balloc (Below.refl _ _) _) _⟩

set_option maxHeartbeats 400000 in
theorem find_yes (w : World) (p : Nat) (most gens : Int) (sl : List Slot) (fr : List Int) (live : Int) (g cap : Nat) (vf : Value)
    (h : ARep w 58 81 p most gens sl fr live (.slice (some ⟨g, 0, none⟩) sl.length cap) vf) (i : Nat) (s : Slot) (hi : sl[i]? = some s) (ha : s.alive = true) (gen : Int) (hg : s.gen = gen) :
    Calls Try.prog 44 #[.pointer (some ⟨p, 0, none⟩), .agg #[.int .i64 i, .int .i64 gen]] w fun e w' => e = .returned (.pointer (some ⟨g, i * 3, none⟩)) ∧ Below w.heap.size w w' := by
  obtain ⟨g', cap', he, hcap, hm, c0, c1, c2⟩ := h.row hi
  have hl : i < sl.length := (List.getElem?_eq_some_iff.1 hi).1
  simp at he
  obtain ⟨rfl, rfl⟩ := he
  subst hg
  rw [ha] at c1
  have hc := h.blk.cell 2
  simp at hc
  have hlt := h.blk.lt
  have hgl := World.block_lt_of_cell? w _ c0
  simp at hgl
  unfold maxLen at hm
  have hd : decide ((i : Int) < 0) = false := by simp
  have hd2 : decide ((sl.length : Int) ≤ (i : Int)) = false := by simp; omega
  have hd3 : decide (sl.length ≤ i) = false := by simp; omega
  clear hi
  go_enter Try.func44, Try.ntmps44
  go_wp2
  go_quiet (fail)
  go_wp2
  go_quiet (fail)
  go_wp2
  go_quiet (fail)
  go_wp2
  go_ret
  exact ⟨rfl, bdrewN (bdrewN (bdrewN (balloc (Below.refl _ _) _) _) _) _⟩

set_option maxHeartbeats 400000 in
theorem find_dead (w : World) (p : Nat) (most gens : Int) (sl : List Slot) (fr : List Int) (live : Int) (vs vf : Value)
    (h : ARep w 58 81 p most gens sl fr live vs vf) (i : Nat) (s : Slot) (hi : sl[i]? = some s) (gen : Int) (ha : s.alive = false ∨ s.gen ≠ gen) :
    Calls Try.prog 44 #[.pointer (some ⟨p, 0, none⟩), .agg #[.int .i64 i, .int .i64 gen]] w fun e w' => e = .returned (.pointer none) ∧ Below w.heap.size w w' := by
  obtain ⟨g, cap, rfl, hcap, hm, c0, c1, c2⟩ := h.row hi
  have hl : i < sl.length := (List.getElem?_eq_some_iff.1 hi).1
  have hc := h.blk.cell 2
  simp at hc
  have hlt := h.blk.lt
  have hgl := World.block_lt_of_cell? w _ c0
  simp at hgl
  unfold maxLen at hm
  have hd : decide ((i : Int) < 0) = false := by simp
  have hd2 : decide ((sl.length : Int) ≤ (i : Int)) = false := by simp; omega
  have hd3 : decide (sl.length ≤ i) = false := by simp; omega
  clear hi
  cases hal : s.alive with
  | false =>
    rw [hal] at c1
    clear ha hal
    go_enter Try.func44, Try.ntmps44
    go_wp2
    go_quiet (fail)
    go_wp2
    go_quiet (fail)
    go_wp2
    go_quiet (fail)
    go_wp2
    go_ret
    exact ⟨rfl, bdrewN (bdrewN (bdrewN (balloc (Below.refl _ _) _) _) _) _⟩
  | true =>
    rw [hal] at c1
    have hne : (s.gen == gen) = false := by
      rcases ha with ha | ha
      · rw [hal] at ha; cases ha
      · simpa using ha
    clear ha hal
    go_enter Try.func44, Try.ntmps44
    go_wp2
    go_quiet (fail)
    go_wp2
    go_quiet (fail)
    go_wp2
    go_quiet (fail)
    go_wp2
    go_ret
    exact ⟨rfl, bdrewN (bdrewN (bdrewN (balloc (Below.refl _ _) _) _) _) _⟩

theorem find_no (w : World) (p : Nat) (most gens : Int) (sl : List Slot) (fr : List Int) (live : Int) (vs vf : Value)
    (h : ARep w 58 81 p most gens sl fr live vs vf) (slot gen : Int) (hn : ¬ hit sl slot gen) :
    Calls Try.prog 44 #[.pointer (some ⟨p, 0, none⟩), .agg #[.int .i64 slot, .int .i64 gen]] w fun e w' => e = .returned (.pointer none) ∧ Below w.heap.size w w' := by
  by_cases hr : slot < 0 ∨ (sl.length : Int) ≤ slot
  · exact find_range w p most gens sl fr live vs vf h slot gen hr
  · obtain ⟨i, rfl⟩ := Int.eq_ofNat_of_zero_le (show 0 ≤ slot by omega)
    have hl : i < sl.length := by omega
    refine find_dead w p most gens sl fr live vs vf h i sl[i] (List.getElem?_eq_getElem hl) gen ?_
    by_cases ha : sl[i].alive = true
    · right; intro hg; exact hn ⟨i, sl[i], rfl, List.getElem?_eq_getElem hl, ha, hg⟩
    · left; simpa using ha

set_option maxHeartbeats 400000 in
theorem at_no (w : World) (p : Nat) (most gens : Int) (sl : List Slot) (fr : List Int) (live : Int) (vs vf : Value)
    (h : ARep w 58 81 p most gens sl fr live vs vf) (slot gen : Int) (hn : ¬ hit sl slot gen) :
    Calls Try.prog 40 #[.pointer (some ⟨p, 0, none⟩), .agg #[.int .i64 slot, .int .i64 gen]] w fun e w' => e = .returned (.tuple #[.string ⟨#[]⟩, .int .i64 32]) ∧ Below w.heap.size w w' := by
  have hlt := h.blk.lt
  go_enter Try.func40, Try.ntmps40
  go_wp2_with fail
  refine (find_no _ p most gens sl fr live vs vf (h.keep (balloc (Below.refl _ _) _)) slot gen hn).mono ?_
  rintro e w' ⟨rfl, hb⟩
  go_wp2_with fail
  go_ret2
  exact ⟨rfl, (balloc (Below.refl _ _) _).trans (hb.mono (by simp))⟩

set_option maxHeartbeats 400000 in
theorem at_yes (w : World) (p : Nat) (most gens : Int) (sl : List Slot) (fr : List Int) (live : Int) (vs vf : Value)
    (h : ARep w 58 81 p most gens sl fr live vs vf) (i : Nat) (s : Slot) (hi : sl[i]? = some s) (ha : s.alive = true) (gen : Int) (hg : s.gen = gen) :
    Calls Try.prog 40 #[.pointer (some ⟨p, 0, none⟩), .agg #[.int .i64 i, .int .i64 gen]] w fun e w' => e = .returned (.tuple #[s.thing, .int .i64 0]) ∧ Below w.heap.size w w' := by
  have hlt := h.blk.lt
  obtain ⟨g, cap, rfl, hcap, hm, c0, c1, c2⟩ := h.row hi
  have hgl := World.block_lt_of_cell? w _ c0
  simp at hgl
  go_enter Try.func40, Try.ntmps40
  go_wp2_with fail
  refine (find_yes _ p most gens sl fr live g cap vf (h.keep (balloc (Below.refl _ _) _)) i s hi ha gen hg).mono ?_
  rintro e w' ⟨rfl, hb⟩
  have hb2 := (balloc (Below.refl _ _) _).trans (hb.mono (B' := w.heap.size) (by simp))
  have k2 := (hb2.cell (p := ⟨g, i * 3 + 2, none⟩) hgl).trans c2
  go_wp2_with fail
  go_ret2
  exact ⟨rfl, hb2⟩

set_option maxHeartbeats 400000 in
theorem give_no (w : World) (p : Nat) (most gens : Int) (sl : List Slot) (fr : List Int) (live : Int) (vs vf : Value)
    (h : ARep w 58 81 p most gens sl fr live vs vf) (slot gen : Int) (hn : ¬ hit sl slot gen) :
    Calls Try.prog 39 #[.pointer (some ⟨p, 0, none⟩), .agg #[.int .i64 slot, .int .i64 gen]] w fun e w' => e = .returned (.int .i64 32) ∧ Below w.heap.size w w' := by
  have hlt := h.blk.lt
  go_enter Try.func39, Try.ntmps39
  go_wp2_with fail
  refine (find_no _ p most gens sl fr live vs vf (h.keep (balloc (Below.refl _ _) _)) slot gen hn).mono ?_
  rintro e w' ⟨rfl, hb⟩
  go_wp2_with fail
  go_ret
  exact ⟨rfl, (balloc (Below.refl _ _) _).trans (hb.mono (by simp))⟩

set_option maxHeartbeats 1000000 in
theorem give_last (w : World) (p : Nat) (most gens : Int) (sl : List Slot) (fr : List Int) (live : Int) (vs vf : Value)
    (h : ARep w 58 81 p most gens sl fr live vs vf) (i : Nat) (s : Slot) (hi : sl[i]? = some s) (ha : s.alive = true) (gen : Int) (hg : s.gen = gen)
    (hm1 : 1 ≤ live) (hm2 : live ≤ 9000000000) (hgen : gens ≤ s.gen) :
    Calls Try.prog 39 #[.pointer (some ⟨p, 0, none⟩), .agg #[.int .i64 i, .int .i64 gen]] w fun e w' => e = .returned (.int .i64 0) ∧
      ANow w w' 58 81 p most gens (sl.set i (gone s (.string ⟨#[]⟩))) fr (live - 1) vs vf vs vf := by
  have hlt := h.blk.lt
  obtain ⟨g, cap, rfl, hcap, hm, c0, c1, c2⟩ := h.row hi
  have hl : i < sl.length := (List.getElem?_eq_some_iff.1 hi).1
  have hgl := World.block_lt_of_cell? w _ c0
  simp at hgl
  obtain ⟨f0, f1, f2⟩ := flat_at sl i s hi
  have hgp : g ≠ p := fun e => h.pvs (by decide) (by simp [Value.ownBlock, e])
  have hpg : p ≠ g := fun e => hgp e.symm
  go_enter Try.func39, Try.ntmps39
  go_wp2_with fail
  refine (find_yes _ p most gens sl fr live g cap vf (h.keep (balloc (Below.refl _ _) _)) i s hi ha gen hg).mono ?_
  rintro e w' ⟨rfl, hb⟩
  have hb2 := (balloc (Below.refl _ _) _).trans (hb.mono (B' := w.heap.size) (by simp))
  have r2 := h.keep hb2
  have k0 := (hb2.cell (p := ⟨g, i * 3, none⟩) hgl).trans c0
  have k1 := (hb2.cell (p := ⟨g, i * 3 + 1, none⟩) hgl).trans c1
  have k2 := (hb2.cell (p := ⟨g, i * 3 + 2, none⟩) hgl).trans c2
  have z1 := r2.frozen (i * 3 + 1)
  have z2 := r2.frozen (i * 3 + 2)
  have p1 := r2.blk.cell 1
  have p4 := r2.blk.cell 4
  have y4 := r2.blk.frozen 4
  simp at p1 p4
  have r3 : ARep ((((w'.setCell ⟨g, i * 3 + 1, none⟩ (.bool false)).setCell ⟨g, i * 3 + 2, none⟩ (.string ⟨#[]⟩)).setCell ⟨p, 4, none⟩ (.int .i64 (live - 1)))) 58 81 p most gens (sl.set i (gone s (.string ⟨#[]⟩))) fr (live - 1) (.slice (some ⟨g, 0, none⟩) sl.length cap) vf := by
    refine ((r2.setSlot (by decide) (by decide) (i * 3 + 1) (.bool false) (sl.set i { s with alive := false }) (by simp) ?_).setSlot (by decide) (by decide) (i * 3 + 2) (.string ⟨#[]⟩) _ (by simp) ?_).setLive (by decide) (by decide) _
    · rw [flat_set sl i _ hl]
      simp only []
      rw [set_same _ _ _ f0]
      rw [List.set_comm _ _ (by omega), set_same _ _ _ f2]
    · rw [flat_set sl i _ hl, flat_set sl i _ hl]
      simp only [gone, List.set_set]
  have HR := Lib.hid r3
  clear r3
  have hd : decide (s.gen < gens) = false := by simp; omega
  clear hi f0 f1 f2 ha
  go_wp2_with fail
  go_quiet (fail)
  go_wp2_with fail
  go_ret
  have hm' := ((((Mod.ofBelow hb2).setCell (F := foot p (.slice (some ⟨g, 0, none⟩) sl.length cap) vf) (p := ⟨g, i * 3 + 1, none⟩) (fun _ => .inr (.inl rfl)) (.bool false)).setCell (p := ⟨g, i * 3 + 2, none⟩) (fun _ => .inr (.inl rfl)) (.string ⟨#[]⟩)).setCell (p := ⟨p, 4, none⟩) (fun _ => .inl rfl) (.int .i64 (live - 1)))
  exact ⟨rfl, ⟨HR.out.keep (bdrewN (Below.refl _ _) _), hm'.drewN _, fun k hk _ => hk⟩⟩

set_option maxHeartbeats 1000000 in
theorem give_free (w : World) (p : Nat) (most gens : Int) (sl : List Slot) (fr : List Int) (live : Int) (vs vf : Value)
    (h : ARep w 58 81 p most gens sl fr live vs vf) (i : Nat) (s : Slot) (hi : sl[i]? = some s) (ha : s.alive = true) (gen : Int) (hg : s.gen = gen)
    (hm1 : 1 ≤ live) (hm2 : live ≤ 9000000000) (hgen : s.gen < gens) (hfr : fr.length ≤ 100000000) :
    Calls Try.prog 39 #[.pointer (some ⟨p, 0, none⟩), .agg #[.int .i64 i, .int .i64 gen]] w fun e w' => e = .returned (.int .i64 0) ∧
      ∃ vf', ANow w w' 58 81 p most gens (sl.set i (gone s (.string ⟨#[]⟩))) (fr ++ [(i : Int)]) (live - 1) vs vf vs vf' := by
  have hlt := h.blk.lt
  obtain ⟨g, cap, rfl, hcap, hm, c0, c1, c2⟩ := h.row hi
  have hl : i < sl.length := (List.getElem?_eq_some_iff.1 hi).1
  have hgl := World.block_lt_of_cell? w _ c0
  simp at hgl
  obtain ⟨f0, f1, f2⟩ := flat_at sl i s hi
  have hgp : g ≠ p := fun e => h.pvs (by decide) (by simp [Value.ownBlock, e])
  have hpg : p ≠ g := fun e => hgp e.symm
  obtain ⟨i0, hi0, hz0, hz1, hz2⟩ := info_parts Try.infoInt
  go_enter Try.func39, Try.ntmps39
  go_wp2_with fail
  refine (find_yes _ p most gens sl fr live g cap vf (h.keep (balloc (Below.refl _ _) _)) i s hi ha gen hg).mono ?_
  rintro e w' ⟨rfl, hb⟩
  have hb1 := hb.cell (p := ⟨w.heap.size, 0, none⟩) (by simp)
  simp at hb1
  have hb2 := (balloc (Below.refl _ _) _).trans (hb.mono (B' := w.heap.size) (by simp))
  have hsz := hb.size
  simp at hsz
  have r2 := h.keep hb2
  have k0 := (hb2.cell (p := ⟨g, i * 3, none⟩) hgl).trans c0
  have k1 := (hb2.cell (p := ⟨g, i * 3 + 1, none⟩) hgl).trans c1
  have k2 := (hb2.cell (p := ⟨g, i * 3 + 2, none⟩) hgl).trans c2
  have z1 := r2.frozen (i * 3 + 1)
  have z2 := r2.frozen (i * 3 + 2)
  have p1 := r2.blk.cell 1
  have p4 := r2.blk.cell 4
  have y4 := r2.blk.frozen 4
  simp at p1 p4
  have r3 : ARep ((((w'.setCell ⟨g, i * 3 + 1, none⟩ (.bool false)).setCell ⟨g, i * 3 + 2, none⟩ (.string ⟨#[]⟩)).setCell ⟨p, 4, none⟩ (.int .i64 (live - 1)))) 58 81 p most gens (sl.set i (gone s (.string ⟨#[]⟩))) fr (live - 1) (.slice (some ⟨g, 0, none⟩) sl.length cap) vf := by
    refine ((r2.setSlot (by decide) (by decide) (i * 3 + 1) (.bool false) (sl.set i { s with alive := false }) (by simp) ?_).setSlot (by decide) (by decide) (i * 3 + 2) (.string ⟨#[]⟩) _ (by simp) ?_).setLive (by decide) (by decide) _
    · rw [flat_set sl i _ hl]
      simp only []
      rw [set_same _ _ _ f0]
      rw [List.set_comm _ _ (by omega), set_same _ _ _ f2]
    · rw [flat_set sl i _ hl, flat_set sl i _ hl]
      simp only [gone, List.set_set]
  have HR := Lib.hid r3
  clear r3
  have hd : decide (s.gen < gens) = true := by simp; omega
  clear hi f0 f1 f2 ha
  go_wp2_with fail
  go_quiet (fail)
  have hm' := ((((Mod.ofBelow hb2).setCell (F := foot p (.slice (some ⟨g, 0, none⟩) sl.length cap) vf) (p := ⟨g, i * 3 + 1, none⟩) (fun _ => .inr (.inl rfl)) (.bool false)).setCell (p := ⟨g, i * 3 + 2, none⟩) (fun _ => .inr (.inl rfl)) (.string ⟨#[]⟩)).setCell (p := ⟨p, 4, none⟩) (fun _ => .inl rfl) (.int .i64 (live - 1)))
  have hm3 : Mod (fun k => k = g ∨ k = p) w' (((w'.setCell ⟨g, i * 3 + 1, none⟩ (.bool false)).setCell ⟨g, i * 3 + 2, none⟩ (.string ⟨#[]⟩)).setCell ⟨p, 4, none⟩ (.int .i64 (live - 1))) :=
    (((Mod.refl _ _).setCell (p := ⟨g, i * 3 + 1, none⟩) (fun _ => .inl rfl) _).setCell (p := ⟨g, i * 3 + 2, none⟩) (fun _ => .inl rfl) _).setCell (p := ⟨p, 4, none⟩) (fun _ => .inr rfl) _
  have q0 := (hm3.cell (p := ⟨w.heap.size, 0, none⟩) (show w.heap.size < _ by omega) (show ¬ (w.heap.size = g ∨ w.heap.size = p) by omega)).trans hb1
  have sz : w.heap.size < ((((w'.setCell ⟨g, i * 3 + 1, none⟩ (.bool false)).setCell ⟨g, i * 3 + 2, none⟩ (.string ⟨#[]⟩)).setCell ⟨p, 4, none⟩ (.int .i64 (live - 1)))).heap.size := by simp; omega
  have HM := Lib.hid hm'
  clear hm' hm3 hb1 k0 k1 k2 z1 z2 p1 p4 y4 c0 c1 c2
  go_wp2_with fail
  generalize (((w'.setCell ⟨g, i * 3 + 1, none⟩ (.bool false)).setCell ⟨g, i * 3 + 2, none⟩ (.string ⟨#[]⟩)).setCell ⟨p, 4, none⟩ (.int .i64 (live - 1))) = W at *
  have q3 := HR.out.blk.cell 3
  have y3 := HR.out.blk.frozen 3
  simp at q3
  have hfv := HR.out.frees
  have hpv : vf.ownBlock ≠ some p := HR.out.pvf (by decide)
  have hpl := HR.out.blk.lt
  have HF := Lib.hid hfv
  clear hfv
  have bnd : fr.length + 1 ≤ maxLen := by unfold maxLen; omega
  have hpf : some p ≠ vf.ownBlock := fun e => hpv e.symm
  have hx3 : ∀ k o, ((W.drewN k).alloc o).cell? ⟨p, 3, none⟩ = some vf := fun k o => by simpa using ((HR.out.blk.drewN k).alloc o).cell 3
  go_region_law (refine step_append_lies _ rfl (.tmp 39) (.tmp 42) 34 rfl 0 3 i0 (.int .i64 0) 1 8 Try.underlying34 hi0 hz0 hz1 hz2 rfl (by decide) vf fr.length _ rfl (HF.out.alloc _) ⟨W.heap.size, 0, none⟩ 1 1 [.int .i64 (i : Int)] rfl rfl (cell_one_new _ _ _) (by intro u hu; simp at hu; subst hu; rfl) (by decide) bnd (by omega) (Nat.zero_le _) (W.heap.size + 1) (by simp) ?_; intro g1 cap1 w1 hown1 hgrow1 hat1 hlt1; have b1 := ((HR.out.blk.drewN _).alloc _).grown hgrow1 hpf; have e3 := b1.frozen 3; have e4 := b1.cell 3; simp at e4)
  all_goals
    go_wp2_with fail
    go_ret
    have hgW := grown_of_alloc hgrow1
    refine ⟨rfl, .slice (some ⟨g1, 0, none⟩) (fr.length + 1) cap1, ⟨HR.out.setFree (by decide) (by decide) (by decide) hgW (by simpa using hown1), ((HM.out.grown hgW (fun k hk _ => .inr (.inr hk))).setCell (p := ⟨p, 3, none⟩) (fun _ => .inl rfl) _), ?_⟩⟩
    intro k hk hkl
    rcases hk with hk | hk | hk
    · exact .inl hk
    · exact .inr (.inl hk)
    · simp [Value.ownBlock] at hk
      subst hk
      rcases hat1 with hat1 | hat1
      · exact .inr (.inr hat1)
      · omega

theorem Try.infoSlot : (Try.prog.info? 81).map (fun i => (i.zero, i.size, i.bytes)) = some (some (.agg #[.int .i64 0, .bool false, .string ⟨#[]⟩]), 3, 32) := by kernel_rfl

set_option maxHeartbeats 400000 in
theorem len_any (w : World) (p : Nat) (most gens : Int) (sl : List Slot) (fr : List Int) (live : Int) (vs vf : Value)
    (h : ARep w 58 81 p most gens sl fr live vs vf) :
    Calls Try.prog 12 #[.pointer (some ⟨p, 0, none⟩)] w fun e w' => e = .returned (.int .i64 live) ∧ w = w' := by
  have c4 := h.blk.cell 4
  simp at c4
  go_enter Try.func12, Try.ntmps12
  go_wp2
  go_ret
  exact ⟨rfl, rfl⟩

set_option maxHeartbeats 400000 in
theorem room_any (w : World) (p : Nat) (most gens : Int) (sl : List Slot) (fr : List Int) (live : Int) (vs vf : Value)
    (h : ARep w 58 81 p most gens sl fr live vs vf) (hm0 : 0 ≤ most) (hm1 : most ≤ 100000000) (hs : sl.length ≤ 100000000) (hf : fr.length ≤ 100000000) :
    Calls Try.prog 13 #[.pointer (some ⟨p, 0, none⟩)] w fun e w' => e = .returned (.int .i64 (most - sl.length + fr.length)) ∧ Below w.heap.size w w' := by
  obtain ⟨a1, cap1, rfl, _⟩ := h.len
  obtain ⟨a2, cap2, rfl, _⟩ := h.flen
  have c0 := h.blk.cell 0
  have c2 := h.blk.cell 2
  have c3 := h.blk.cell 3
  simp at c0 c2 c3
  go_enter Try.func13, Try.ntmps13
  go_wp2
  go_quiet (fail)
  go_wp2
  go_ret
  exact ⟨rfl, bdrewN (Below.refl _ _) _⟩

set_option maxHeartbeats 400000 in
theorem take_full (w : World) (p : Nat) (most gens : Int) (sl : List Slot) (live : Int) (vs vf : Value) (v : ByteArray)
    (h : ARep w 58 81 p most gens sl [] live vs vf) (hfull : most ≤ sl.length) :
    Calls Try.prog 37 #[.pointer (some ⟨p, 0, none⟩), .string v] w fun e w' => e = .returned (.tuple #[.agg #[.int .i64 0, .int .i64 0], .int .i64 31]) ∧ Below w.heap.size w w' := by
  obtain ⟨a1, cap1, rfl, _⟩ := h.len
  obtain ⟨a2, cap2, rfl, _⟩ := h.flen
  have c0 := h.blk.cell 0
  have c2 := h.blk.cell 2
  have c3 := h.blk.cell 3
  simp at c0 c2 c3
  have hlt := h.blk.lt
  have hd : decide ((sl.length : Int) < most) = false := by simp; omega
  go_enter Try.func37, Try.ntmps37
  go_wp2
  exact bodyPost_ret (v := .tuple #[.agg #[.int .i64 0, .int .i64 0], .int .i64 31]) (by simp [results, Try.results37, go_sem]) rfl ⟨rfl, by repeat (first | exact Below.refl _ _ | refine balloc ?_ _)⟩

set_option maxHeartbeats 2000000 in
theorem take_new (w : World) (p : Nat) (most gens : Int) (sl : List Slot) (live : Int) (vs vf : Value) (v : ByteArray)
    (h : ARep w 58 81 p most gens sl [] live vs vf) (hroom : (sl.length : Int) < most) (hsl : sl.length ≤ 100000000) (hm0 : 0 ≤ live) (hm1 : live ≤ 9000000000) :
    Calls Try.prog 37 #[.pointer (some ⟨p, 0, none⟩), .string v] w fun e w' => e = .returned (.tuple #[.agg #[.int .i64 sl.length, .int .i64 1], .int .i64 0]) ∧
      ∃ vs', ANow w w' 58 81 p most gens (sl ++ [⟨1, true, .string v⟩]) [] (live + 1) vs vf vs' vf := by
  obtain ⟨a1, cap1, rfl, _⟩ := h.len
  obtain ⟨a2, cap2, hvf, _⟩ := h.flen
  have c0 := h.blk.cell 0
  have c2 := h.blk.cell 2
  have c3 := h.blk.cell 3
  have c4 := h.blk.cell 4
  simp at c0 c2 c3 c4
  have hlt := h.blk.lt
  have hd : decide ((sl.length : Int) < most) = true := by simp; omega
  obtain ⟨i0, hi0, hz0, hz1, hz2⟩ := info_parts Try.infoSlot
  have bnd : sl.length + 1 ≤ maxLen := by unfold maxLen; omega
  have hpf : some p ≠ (Value.slice a1 sl.length cap1).ownBlock := fun e => h.pvs (by decide) e.symm
  have HA := Lib.hid h
  clear h
  have HV := Lib.hid hvf
  have c3' : w.cell? ⟨p, 3, none⟩ = some (.slice a2 0 cap2) := by rw [c3, hvf]; rfl
  clear c3 hvf
  go_enter Try.func37, Try.ntmps37
  go_wp2_with (at_builtin; refine wpList_append_lies _ rfl (.tmp 58) (.tmp 60) 56 rfl 0 81 i0 (.agg #[.int .i64 0, .bool false, .string ⟨#[]⟩]) 3 32 Try.underlying56 hi0 hz0 hz1 hz2 rfl (by decide) (.slice a1 sl.length cap1) sl.length _ rfl ((HA.out.slots.alloc _).alloc _) ⟨w.heap.size + 1, 0, none⟩ 1 1 [.int .i64 0, .bool false, .string ⟨#[]⟩] rfl rfl ?c1 ?c2 (by decide) bnd (by omega) (Nat.zero_le _) (w.heap.size + 1 + 1) (by simp) ?_)
  case c1 =>
    have hnb := World.news_of_block (Blk.new (w.alloc (.cells #[.int .i64 0, .int .i64 0] 40)) 81 #[.int .i64 0, .bool false, .string ⟨#[]⟩])
    rw [World.size_alloc] at hnb
    exact hnb
  case c2 => intro u hu; simp at hu; rcases hu with rfl | rfl | rfl <;> rfl
  intro g1 cap1' w1 hown1 hgrow1 hat1 hlt1
  have b1 := ((HA.out.blk.alloc _).alloc _).grown hgrow1 hpf
  have hgW : w.grownBy w1 (Value.slice a1 sl.length cap1).ownBlock := grown_of_alloc (k := 0) (grown_of_alloc (k := 0) hgrow1)
  have hres : Blk w1 w.heap.size 40 #[.int .i64 0, .int .i64 0] := ((Blk.new w _ _).alloc _).grown hgrow1 (fun e => by
    have := HA.out.slots.lt _ e.symm
    omega)
  have e2 := b1.frozen 2
  have e4 := b1.frozen 4
  have d2 := b1.cell 2
  have d4 := b1.cell 4
  simp at d2 d4
  have rA := HA.out.setSlots (w1 := w1) (vs' := .slice (some ⟨g1, 0, none⟩) (sl.length + 1) cap1') (sl' := sl ++ [⟨0, false, .string ⟨#[]⟩⟩]) (by decide) (by decide) (by decide) hgW (by rw [flat_snoc]; simpa using hown1)
  have HRA := Lib.hid rA
  have f0 := hown1.frozenAt (sl.length * 3)
  have f1 := hown1.frozenAt (sl.length * 3 + 1)
  have f2 := hown1.frozenAt (sl.length * 3 + 2)
  obtain ⟨g0, g1', g2⟩ := snoc_cells hown1
  have hgp : g1 ≠ p := fun e => own_blk_ne hown1 b1 (by decide) (by simp [Value.ownBlock, e])
  have hpg : p ≠ g1 := fun e => hgp e.symm
  have hgr : g1 ≠ w.heap.size := fun e => own_blk_ne hown1 hres (by decide) (by simp [Value.ownBlock, e])
  have hrg : w.heap.size ≠ g1 := fun e => hgr e.symm
  have hrp : w.heap.size ≠ p := by omega
  have hpr : p ≠ w.heap.size := by omega
  have r0 := hres.cell 0
  have r1 := hres.cell 1
  have s0 := hres.frozen 0
  have s1 := hres.frozen 1
  simp at r0 r1
  have HG := Lib.hid hgW
  clear hgW rA
  go_wp2_with fail
  have rB := (((HRA.out.setSlot (by decide) (by decide) (sl.length * 3) (.int .i64 1) (sl ++ [⟨1, false, .string ⟨#[]⟩⟩]) (by simp) (by rw [flat_snoc, flat_snoc, List.set_append_right _ _ (by rw [flat_len]; omega), flat_len]; simp)).setSlot (by decide) (by decide) (sl.length * 3 + 1) (.bool true) (sl ++ [⟨1, true, .string ⟨#[]⟩⟩]) (by simp) (by rw [flat_snoc, flat_snoc, List.set_append_right _ _ (by rw [flat_len]; omega), flat_len]; simp)).setSlot (by decide) (by decide) (sl.length * 3 + 2) (.string v) (sl ++ [⟨1, true, .string v⟩]) (by simp) (by rw [flat_snoc, flat_snoc, List.set_append_right _ _ (by rw [flat_len]; omega), flat_len]; simp)).setLive (by decide) (by decide) (live + 1)
  have hvl : ∀ k, vf.ownBlock = some k → k < w.heap.size := fun k hk => (HA.out.frees.lt k hk).2
  have hmR := (Mod.refl (fun k => k = w.heap.size) (((((w1.setCell ⟨p, 2, none⟩ (.slice (some ⟨g1, 0, none⟩) (sl.length + 1) cap1')).setCell ⟨g1, sl.length * 3, none⟩ (.int .i64 1)).setCell ⟨g1, sl.length * 3 + 1, none⟩ (.bool true)).setCell ⟨g1, sl.length * 3 + 2, none⟩ (.string v)).setCell ⟨p, 4, none⟩ (.int .i64 (live + 1)))).setCell (p := ⟨w.heap.size, 0, none⟩) (fun _ => rfl) (.int .i64 sl.length)
  have hmR2 := hmR.setCell (p := ⟨w.heap.size, 1, none⟩) (fun _ => rfl) (.int .i64 1)
  have rC := rB.mod hmR2 (by
    rintro k (rfl | hk | hk) hk2
    · omega
    · simp [Value.ownBlock] at hk; omega
    · have := hvl k hk; omega)
  have hF : ∀ q : Addr, (q.block = p ∨ q.block = g1 ∨ q.block = w.heap.size) → q.block < w.heap.size → foot p (.slice a1 sl.length cap1) vf q.block := by
    rintro q (h | h | h) hl
    · exact .inl h
    · rcases hat1 with e | e
      · exact .inr (.inl (by rw [h]; exact e))
      · omega
    · omega
  have hM0 : Mod (foot p (.slice a1 sl.length cap1) vf) w w1 := (Mod.refl _ _).grown HG.out (fun k hk _ => .inr (.inl hk))
  have hM := ((((((hM0.setCell (p := ⟨p, 2, none⟩) (hF _ (.inl rfl)) (.slice (some ⟨g1, 0, none⟩) (sl.length + 1) cap1')).setCell (p := ⟨g1, sl.length * 3, none⟩) (hF _ (.inr (.inl rfl))) (.int .i64 1)).setCell (p := ⟨g1, sl.length * 3 + 1, none⟩) (hF _ (.inr (.inl rfl))) (.bool true)).setCell (p := ⟨g1, sl.length * 3 + 2, none⟩) (hF _ (.inr (.inl rfl))) (.string v)).setCell (p := ⟨p, 4, none⟩) (hF _ (.inl rfl)) (.int .i64 (live + 1))).setCell (p := ⟨w.heap.size, 0, none⟩) (hF _ (.inr (.inr rfl))) (.int .i64 sl.length)).setCell (p := ⟨w.heap.size, 1, none⟩) (hF _ (.inr (.inr rfl))) (.int .i64 1)
  refine bodyPost_ret (v := .tuple #[.agg #[.int .i64 sl.length, .int .i64 1], .int .i64 0]) (by simp [results, Try.results37, go_sem, *]) rfl ⟨rfl, .slice (some ⟨g1, 0, none⟩) (sl.length + 1) cap1', ⟨rC, hM, ?_⟩⟩
  intro k hk hkl
  rcases hk with hk | hk | hk
  · exact .inl hk
  · simp [Value.ownBlock] at hk
    subst hk
    rcases hat1 with e | e
    · exact .inr (.inl e)
    · omega
  · exact .inr (.inr hk)

set_option maxHeartbeats 2000000 in
theorem take_free (w : World) (p : Nat) (most gens : Int) (sl : List Slot) (fr : List Int) (live : Int) (vs vf : Value) (i : Nat) (s : Slot) (hi : sl[i]? = some s) (v : ByteArray)
    (h : ARep w 58 81 p most gens sl (fr ++ [(i : Int)]) live vs vf) (hg0 : 0 ≤ s.gen) (hg1 : s.gen ≤ 9000000000) (hm0 : 0 ≤ live) (hm1 : live ≤ 9000000000) :
    Calls Try.prog 37 #[.pointer (some ⟨p, 0, none⟩), .string v] w fun e w' => e = .returned (.tuple #[.agg #[.int .i64 i, .int .i64 (s.gen + 1)], .int .i64 0]) ∧
      ∃ vf', ANow w w' 58 81 p most gens (sl.set i (anew s (.string v))) fr (live + 1) vs vf vs vf' := by
  obtain ⟨g, cap, rfl, hcap, hm, k0, k1, k2⟩ := h.row hi
  obtain ⟨gf, capf, rfl, hcapf, hmf, hgf, kf⟩ := h.frow
  have hl : i < sl.length := (List.getElem?_eq_some_iff.1 hi).1
  have hgl := World.block_lt_of_cell? w _ k0
  simp at hgl
  have c2 := h.blk.cell 2
  have c3 := h.blk.cell 3
  have c4 := h.blk.cell 4
  simp at c2 c3 c4
  have y3 := h.blk.frozen 3
  have y4 := h.blk.frozen 4
  have f0 := h.frozen (i * 3)
  have f1 := h.frozen (i * 3 + 1)
  have f2 := h.frozen (i * 3 + 2)
  have hlt := h.blk.lt
  have hgp : g ≠ p := fun e => h.pvs (by decide) (by simp [Value.ownBlock, e])
  have hpg : p ≠ g := fun e => hgp e.symm
  have hfp : gf ≠ p := fun e => h.pvf (by decide) (by simp [Value.ownBlock, e])
  have hpf : p ≠ gf := fun e => hfp e.symm
  have hrp : w.heap.size ≠ p := by omega
  have hrg : w.heap.size ≠ g := by omega
  have HA := Lib.hid h
  have HI := Lib.hid hi
  clear h hi
  unfold maxLen at hm hmf
  go_enter Try.func37, Try.ntmps37
  go_wp2_with fail
  go_quiet (fail)
  go_wp2_with fail
  go_region
  all_goals
    go_wp2_with fail
    refine bodyPost_ret (v := .tuple #[.agg #[.int .i64 i, .int .i64 (s.gen + 1)], .int .i64 0]) (by simp [results, Try.results37, go_sem, *]) rfl ⟨rfl, .slice (some ⟨gf, 0, none⟩) fr.length capf, ?_⟩
    have hi := HI.out
    obtain ⟨e0, e1, e2⟩ := flat_at sl i s hi
    have hb : Below w.heap.size w ((w.alloc (.cells #[.int .i64 0, .int .i64 0] 40)).drewN (nq + 1)) := bdrewN (balloc (Below.refl _ _) _) _
    have rB := (((((HA.out.keep hb).popFree (by decide) (by decide)).setSlot (by decide) (by decide) (i * 3) (.int .i64 (s.gen + 1)) (sl.set i ⟨s.gen + 1, s.alive, s.thing⟩) (by simp) (by
        rw [flat_set sl i _ hl, List.set_comm _ _ (show i * 3 ≠ i * 3 + 1 by omega), set_same _ _ _ e1, List.set_comm _ _ (show i * 3 ≠ i * 3 + 2 by omega), set_same _ _ _ e2])).setSlot (by decide) (by decide) (i * 3 + 1) (.bool true) (sl.set i ⟨s.gen + 1, true, s.thing⟩) (by simp) (by
        rw [flat_set sl i _ hl, flat_set sl i _ hl, List.set_comm _ _ (show i * 3 + 1 ≠ i * 3 + 2 by omega), List.set_comm _ _ (show i * 3 ≠ i * 3 + 2 by omega), set_same _ _ _ e2, List.set_comm _ _ (show i * 3 + 1 ≠ i * 3 + 2 by omega), List.set_comm _ _ (show i * 3 ≠ i * 3 + 2 by omega), set_same _ _ _ e2, List.set_set])).setSlot (by decide) (by decide) (i * 3 + 2) (.string v) (sl.set i (anew s (.string v))) (by simp) (by
        rw [flat_set sl i _ hl, flat_set sl i _ hl]; simp only [anew, List.set_set])).setLive (by decide) (by decide) (live + 1)
    have rC := rB.mod (F := fun k => k = w.heap.size) (((Mod.refl (fun k => k = w.heap.size) _).setCell (p := ⟨w.heap.size, 0, none⟩) (fun _ => rfl) (.int .i64 i)).setCell (p := ⟨w.heap.size, 1, none⟩) (fun _ => rfl) (.int .i64 (s.gen + 1))) (by
      rintro k (rfl | hk | hk) hk2
      · omega
      · simp [Value.ownBlock] at hk; omega
      · simp [Value.ownBlock] at hk; omega)
    refine ⟨rC, ?_, ?_⟩
    · have hF : ∀ q : Addr, (q.block = p ∨ q.block = g ∨ q.block = w.heap.size) → q.block < w.heap.size → foot p (.slice (some ⟨g, 0, none⟩) sl.length cap) (.slice (some ⟨gf, 0, none⟩) (fr.length + 1) capf) q.block := by
        rintro q (h | h | h) hl
        · exact .inl h
        · exact .inr (.inl (by rw [h]; rfl))
        · omega
      exact (((((((Mod.ofBelow hb).setCell (p := ⟨p, 3, none⟩) (hF _ (.inl rfl)) (.slice (some ⟨gf, 0, none⟩) fr.length capf)).setCell (p := ⟨g, i * 3, none⟩) (hF _ (.inr (.inl rfl))) (.int .i64 (s.gen + 1))).setCell (p := ⟨g, i * 3 + 1, none⟩) (hF _ (.inr (.inl rfl))) (.bool true)).setCell (p := ⟨g, i * 3 + 2, none⟩) (hF _ (.inr (.inl rfl))) (.string v)).setCell (p := ⟨p, 4, none⟩) (hF _ (.inl rfl)) (.int .i64 (live + 1))).setCell (p := ⟨w.heap.size, 0, none⟩) (hF _ (.inr (.inr rfl))) (.int .i64 i)).setCell (p := ⟨w.heap.size, 1, none⟩) (hF _ (.inr (.inr rfl))) (.int .i64 (s.gen + 1))
    · intro k hk _
      exact hk

theorem take_any (w : World) (p : Nat) (most gens : Int) (sl : List Slot) (fr : List Int) (live : Int) (vs vf : Value) (v : ByteArray)
    (h : ARep w 58 81 p most gens sl fr live vs vf) (hi : AInv most gens sl fr live) :
    Calls Try.prog 37 #[.pointer (some ⟨p, 0, none⟩), .string v] w fun e w' =>
      TookAny w w' 58 81 p most gens sl fr live vs vf (.string v) e := by
  have hcnt := hi.count
  have h1 := hi.len
  have h2 := hi.m2
  have h3 := hi.g2
  rcases List.eq_nil_or_concat fr with rfl | ⟨fr0, x, rfl⟩
  · by_cases hr : (sl.length : Int) < most
    · refine (take_new w p most gens sl live vs vf v h hr (by omega) (by omega) (by omega)).mono ?_
      rintro e w' ⟨rfl, vs', hn⟩
      exact .inr ⟨sl.length, 1, _, [], vs', vf, rfl, hn, inv_new hi hr _, taken_new sl _, by simp; omega⟩
    · refine (take_full w p most gens sl live vs vf v h (by omega)).mono ?_
      rintro e w' ⟨rfl, hb⟩
      exact .inl ⟨rfl, hb, rfl, by omega⟩
  · rw [List.concat_eq_append] at h hi
    obtain ⟨i, s0, rfl, _⟩ := hi.frd x (by simp)
    obtain ⟨s, hs, hd, hg, hg1, hi'⟩ := inv_free hi (.string v)
    rw [List.concat_eq_append]
    refine (take_free w p most gens sl fr0 live vs vf i s hs v h (by omega) (by omega) (by omega) (by omega)).mono ?_
    rintro e w' ⟨rfl, vf', hn⟩
    exact .inr ⟨i, s.gen + 1, _, fr0, vs, vf', rfl, hn, hi', taken_free hs hd (by omega) _, by simp; omega⟩

theorem give_any (w : World) (p : Nat) (most gens : Int) (sl : List Slot) (fr : List Int) (live : Int) (vs vf : Value)
    (h : ARep w 58 81 p most gens sl fr live vs vf) (hi : AInv most gens sl fr live) (i : Nat) (s : Slot) (hs : sl[i]? = some s) (ha : s.alive = true) (gen : Int) (hg : s.gen = gen) :
    Calls Try.prog 39 #[.pointer (some ⟨p, 0, none⟩), .agg #[.int .i64 i, .int .i64 gen]] w fun e w' =>
      ∃ fr' vf', Gave w w' 58 81 p most gens sl fr live vs vf (.string ⟨#[]⟩) i s e fr' vf' := by
  have hcnt := hi.count
  have h1 := hi.len
  have h2 := hi.m2
  have h3 := hi.g2
  obtain ⟨k1, k2, k3⟩ := inv_gone hi hs ha (.string ⟨#[]⟩)
  by_cases hl : s.gen < gens
  · refine (give_free w p most gens sl fr live vs vf h i s hs ha gen hg (by omega) (by omega) hl (by omega)).mono ?_
    rintro e w' ⟨rfl, vf', hn⟩
    exact ⟨_, vf', rfl, hn, k3 hl, by rw [if_pos hl]⟩
  · refine (give_last w p most gens sl fr live vs vf h i s hs ha gen hg (by omega) (by omega) (by omega)).mono ?_
    rintro e w' ⟨rfl, hn⟩
    exact ⟨_, vf, rfl, hn, k2 (by omega), by rw [if_neg hl]⟩
end Go.Proofs.Ytppoakomeaamhaa.Str
