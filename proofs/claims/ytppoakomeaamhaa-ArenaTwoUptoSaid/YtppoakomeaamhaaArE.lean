/- The arena of ints: Take where a slot is made, or where one is free. -/
import Derived.Test.YtppoakomeaamhaaArD
namespace Go.Proofs.Ytppoakomeaamhaa
open Go.RowKit

theorem flat_snoc (sl : List Slot) (s : Slot) : (sl ++ [s]).flatMap sc = sl.flatMap sc ++ [.int .i64 s.gen, .bool s.alive, s.thing] := by simp [List.flatMap_append, sc]

theorem snoc_cells {w1 : World} {E : TypeId} {g cap : Nat} {sl : List Slot} {a b c : Value} (h : w1.ownsRow 0 E 3 (.slice (some ⟨g, 0, none⟩) (sl.length + 1) cap) (sl.length + 1) (sl.flatMap sc ++ [a, b, c])) :
    w1.cell? ⟨g, sl.length * 3, none⟩ = some a ∧ w1.cell? ⟨g, sl.length * 3 + 1, none⟩ = some b ∧ w1.cell? ⟨g, sl.length * 3 + 2, none⟩ = some c := by
  have hfl := flat_len sl
  refine ⟨(h.cellAt _ (by omega)).trans ?_, (h.cellAt _ (by omega)).trans ?_, (h.cellAt _ (by omega)).trans ?_⟩
  · rw [List.getElem?_append_right (by omega), hfl]; simp
  · rw [List.getElem?_append_right (by omega), hfl]; simp
  · rw [List.getElem?_append_right (by omega), hfl]; simp

set_option maxHeartbeats 2000000 in
theorem take_new (w : World) (p : Nat) (most gens : Int) (sl : List Slot) (live : Int) (vs vf : Value) (v : Int)
    (h : ARep w 61 65 p most gens sl [] live vs vf) (hroom : (sl.length : Int) < most) (hsl : sl.length ≤ 100000000) (hm0 : 0 ≤ live) (hm1 : live ≤ 9000000000) :
    Calls Try.prog 16 #[.pointer (some ⟨p, 0, none⟩), .int .i64 v] w fun e w' => e = .returned (.tuple #[.agg #[.int .i64 sl.length, .int .i64 1], .int .i64 0]) ∧
      ∃ vs', ANow w w' 61 65 p most gens (sl ++ [⟨1, true, .int .i64 v⟩]) [] (live + 1) vs vf vs' vf := by
  obtain ⟨a1, cap1, rfl, _⟩ := h.len
  obtain ⟨a2, cap2, hvf, _⟩ := h.flen
  have c0 := h.blk.cell 0
  have c2 := h.blk.cell 2
  have c3 := h.blk.cell 3
  have c4 := h.blk.cell 4
  simp at c0 c2 c3 c4
  have hlt := h.blk.lt
  have hd : decide ((sl.length : Int) < most) = true := by simp; omega
  obtain ⟨i0, hi0, hz0, hz1, hz2⟩ := info_parts Try.infoSlot
  have bnd : sl.length + 1 ≤ maxLen := by unfold maxLen; omega
  have hpf : some p ≠ (Value.slice a1 sl.length cap1).ownBlock := fun e => h.pvs (by decide) e.symm
  have HA := Lib.hid h
  clear h
  have HV := Lib.hid hvf
  have c3' : w.cell? ⟨p, 3, none⟩ = some (.slice a2 0 cap2) := by rw [c3, hvf]; rfl
  clear c3 hvf
  go_enter Try.func16, Try.ntmps16
  go_wp2_with (at_builtin; refine wpList_append_lies _ rfl (.tmp 58) (.tmp 60) 59 rfl 0 65 i0 (.agg #[.int .i64 0, .bool false, .int .i64 0]) 3 24 Try.underlying59 hi0 hz0 hz1 hz2 rfl (by decide) (.slice a1 sl.length cap1) sl.length _ rfl ((HA.out.slots.alloc _).alloc _) ⟨w.heap.size + 1, 0, none⟩ 1 1 [.int .i64 0, .bool false, .int .i64 0] rfl rfl ?c1 ?c2 (by decide) bnd (by omega) (Nat.zero_le _) (w.heap.size + 1 + 1) (by simp) ?_)
  case c1 =>
    have hnb := World.news_of_block (Blk.new (w.alloc (.cells #[.int .i64 0, .int .i64 0] 40)) 65 #[.int .i64 0, .bool false, .int .i64 0])
    rw [World.size_alloc] at hnb
    exact hnb
  case c2 => intro u hu; simp at hu; rcases hu with rfl | rfl | rfl <;> rfl
  intro g1 cap1' w1 hown1 hgrow1 hat1 hlt1
  have b1 := ((HA.out.blk.alloc _).alloc _).grown hgrow1 hpf
  have hgW : w.grownBy w1 (Value.slice a1 sl.length cap1).ownBlock := grown_of_alloc (k := 0) (grown_of_alloc (k := 0) hgrow1)
  have hres : Blk w1 w.heap.size 40 #[.int .i64 0, .int .i64 0] := ((Blk.new w _ _).alloc _).grown hgrow1 (fun e => by
    have := HA.out.slots.lt _ e.symm
    omega)
  have e2 := b1.frozen 2
  have e4 := b1.frozen 4
  have d2 := b1.cell 2
  have d4 := b1.cell 4
  simp at d2 d4
  have rA := HA.out.setSlots (w1 := w1) (vs' := .slice (some ⟨g1, 0, none⟩) (sl.length + 1) cap1') (sl' := sl ++ [⟨0, false, .int .i64 0⟩]) (by decide) (by decide) (by decide) hgW (by rw [flat_snoc]; simpa using hown1)
  have HRA := Lib.hid rA
  have f0 := hown1.frozenAt (sl.length * 3)
  have f1 := hown1.frozenAt (sl.length * 3 + 1)
  have f2 := hown1.frozenAt (sl.length * 3 + 2)
  obtain ⟨g0, g1', g2⟩ := snoc_cells hown1
  have hgp : g1 ≠ p := fun e => own_blk_ne hown1 b1 (by decide) (by simp [Value.ownBlock, e])
  have hpg : p ≠ g1 := fun e => hgp e.symm
  have hgr : g1 ≠ w.heap.size := fun e => own_blk_ne hown1 hres (by decide) (by simp [Value.ownBlock, e])
  have hrg : w.heap.size ≠ g1 := fun e => hgr e.symm
  have hrp : w.heap.size ≠ p := by omega
  have hpr : p ≠ w.heap.size := by omega
  have r0 := hres.cell 0
  have r1 := hres.cell 1
  have s0 := hres.frozen 0
  have s1 := hres.frozen 1
  simp at r0 r1
  have HG := Lib.hid hgW
  clear hgW rA
  go_wp2_with fail
  have rB := (((HRA.out.setSlot (by decide) (by decide) (sl.length * 3) (.int .i64 1) (sl ++ [⟨1, false, .int .i64 0⟩]) (by simp) (by rw [flat_snoc, flat_snoc, List.set_append_right _ _ (by rw [flat_len]; omega), flat_len]; simp)).setSlot (by decide) (by decide) (sl.length * 3 + 1) (.bool true) (sl ++ [⟨1, true, .int .i64 0⟩]) (by simp) (by rw [flat_snoc, flat_snoc, List.set_append_right _ _ (by rw [flat_len]; omega), flat_len]; simp)).setSlot (by decide) (by decide) (sl.length * 3 + 2) (.int .i64 v) (sl ++ [⟨1, true, .int .i64 v⟩]) (by simp) (by rw [flat_snoc, flat_snoc, List.set_append_right _ _ (by rw [flat_len]; omega), flat_len]; simp)).setLive (by decide) (by decide) (live + 1)
  have hvl : ∀ k, vf.ownBlock = some k → k < w.heap.size := fun k hk => (HA.out.frees.lt k hk).2
  have hmR := (Mod.refl (fun k => k = w.heap.size) (((((w1.setCell ⟨p, 2, none⟩ (.slice (some ⟨g1, 0, none⟩) (sl.length + 1) cap1')).setCell ⟨g1, sl.length * 3, none⟩ (.int .i64 1)).setCell ⟨g1, sl.length * 3 + 1, none⟩ (.bool true)).setCell ⟨g1, sl.length * 3 + 2, none⟩ (.int .i64 v)).setCell ⟨p, 4, none⟩ (.int .i64 (live + 1)))).setCell (p := ⟨w.heap.size, 0, none⟩) (fun _ => rfl) (.int .i64 sl.length)
  have hmR2 := hmR.setCell (p := ⟨w.heap.size, 1, none⟩) (fun _ => rfl) (.int .i64 1)
  have rC := rB.mod hmR2 (by
    rintro k (rfl | hk | hk) hk2
    · omega
    · simp [Value.ownBlock] at hk; omega
    · have := hvl k hk; omega)
  have hF : ∀ q : Addr, (q.block = p ∨ q.block = g1 ∨ q.block = w.heap.size) → q.block < w.heap.size → foot p (.slice a1 sl.length cap1) vf q.block := by
    rintro q (h | h | h) hl
    · exact .inl h
    · rcases hat1 with e | e
      · exact .inr (.inl (by rw [h]; exact e))
      · omega
    · omega
  have hM0 : Mod (foot p (.slice a1 sl.length cap1) vf) w w1 := (Mod.refl _ _).grown HG.out (fun k hk _ => .inr (.inl hk))
  have hM := ((((((hM0.setCell (p := ⟨p, 2, none⟩) (hF _ (.inl rfl)) (.slice (some ⟨g1, 0, none⟩) (sl.length + 1) cap1')).setCell (p := ⟨g1, sl.length * 3, none⟩) (hF _ (.inr (.inl rfl))) (.int .i64 1)).setCell (p := ⟨g1, sl.length * 3 + 1, none⟩) (hF _ (.inr (.inl rfl))) (.bool true)).setCell (p := ⟨g1, sl.length * 3 + 2, none⟩) (hF _ (.inr (.inl rfl))) (.int .i64 v)).setCell (p := ⟨p, 4, none⟩) (hF _ (.inl rfl)) (.int .i64 (live + 1))).setCell (p := ⟨w.heap.size, 0, none⟩) (hF _ (.inr (.inr rfl))) (.int .i64 sl.length)).setCell (p := ⟨w.heap.size, 1, none⟩) (hF _ (.inr (.inr rfl))) (.int .i64 1)
  refine bodyPost_ret (v := .tuple #[.agg #[.int .i64 sl.length, .int .i64 1], .int .i64 0]) (by simp [results, Try.results16, go_sem, *]) rfl ⟨rfl, .slice (some ⟨g1, 0, none⟩) (sl.length + 1) cap1', ⟨rC, hM, ?_⟩⟩
  intro k hk hkl
  rcases hk with hk | hk | hk
  · exact .inl hk
  · simp [Value.ownBlock] at hk
    subst hk
    rcases hat1 with e | e
    · exact .inr (.inl e)
    · omega
  · exact .inr (.inr hk)
end Go.Proofs.Ytppoakomeaamhaa
