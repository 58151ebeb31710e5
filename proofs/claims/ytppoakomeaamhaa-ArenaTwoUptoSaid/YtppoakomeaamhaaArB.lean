/- The arena of ints: what a store makes of its reading; Put, Give, Take, New, Len, Room. -/
import Derived.Test.YtppoakomeaamhaaArA
namespace Go.Proofs.Ytppoakomeaamhaa
open Go.RowKit

theorem flat_set (sl : List Slot) (i : Nat) (s' : Slot) (hi : i < sl.length) :
    (sl.set i s').flatMap sc = (((sl.flatMap sc).set (i * 3) (.int .i64 s'.gen)).set (i * 3 + 1) (.bool s'.alive)).set (i * 3 + 2) s'.thing := by
  induction sl generalizing i with
  | nil => simp at hi
  | cons a l ih =>
    cases i with
    | zero => simp [List.flatMap_cons, sc]
    | succ i =>
      have := ih i (by simpa using hi)
      have e1 : (i + 1) * 3 = i * 3 + 3 := by omega
      simp only [List.set_cons_succ, List.flatMap_cons, this, e1, sc]
      simp

theorem set_same {α : Type} (l : List α) (i : Nat) (x : α) (h : l[i]? = some x) : l.set i x = l := by
  obtain ⟨hl, rfl⟩ := List.getElem?_eq_some_iff.1 h
  exact List.set_getElem_self hl

section
variable {w : World} {T E : TypeId} {p : Nat} {most gens : Int} {sl : List Slot} {fr : List Int} {live : Int} {vs vf : Value} {g n cap : Nat}

theorem ARep.pvs (h : ARep w T E p most gens sl fr live vs vf) (hTE : E ≠ T) : vs.ownBlock ≠ some p := own_blk_ne h.slots h.blk hTE
theorem ARep.pvf (h : ARep w T E p most gens sl fr live vs vf) (hT : 3 ≠ T) : vf.ownBlock ≠ some p := own_blk_ne h.frees h.blk hT
theorem ARep.vsvf (h : ARep w T E p most gens sl fr live vs vf) (hE : E ≠ 3) {k : Nat} (hk : vs.ownBlock = some k) : vf.ownBlock ≠ some k := own_own_ne h.slots h.frees hE hk

/-- A store into the slots' row. -/
theorem ARep.setSlot (h : ARep w T E p most gens sl fr live (.slice (some ⟨g, 0, none⟩) n cap) vf) (hTE : E ≠ T) (hE : E ≠ 3) (j : Nat) (u : Value) (sl' : List Slot) (hl : sl'.length = sl.length)
    (he : sl'.flatMap sc = (sl.flatMap sc).set j u) : ARep (w.setCell ⟨g, j, none⟩ u) T E p most gens sl' fr live (.slice (some ⟨g, 0, none⟩) n cap) vf := by
  have hn : n = sl.length := by
    rcases h.slots.2 with ⟨h1, _⟩ | ⟨g', cap', cur, h1, _⟩
    · cases h1
    · injection h1
  subst hn
  have h1 := h.pvs hTE
  have h2 : vf.ownBlock ≠ some g := h.vsvf hE rfl
  have hp : p ≠ g := fun e => h1 (by simp [Value.ownBlock, e])
  refine ⟨h.blk.far (p := ⟨g, j, none⟩) hp u, ?_, h.frees.kept (h.slots.stored j u).2 (by right; exact h2)⟩
  rw [hl, he]
  exact (h.slots.stored j u).1

theorem ARep.setLive (h : ARep w T E p most gens sl fr live vs vf) (hTE : E ≠ T) (hT : 3 ≠ T) (l' : Int) : ARep (w.setCell ⟨p, 4, none⟩ (.int .i64 l')) T E p most gens sl fr l' vs vf := by
  have hg : w.grownBy (w.setCell ⟨p, 4, none⟩ (.int .i64 l')) (some p) := ⟨rfl, rfl, rfl, by simp, fun k _ hk => heap_setCell_other w ⟨p, 4, none⟩ k _ (fun e => hk (by simp [e]))⟩
  exact ⟨by simpa using h.blk.set_ 4 (.int .i64 l'), h.slots.kept hg (.inr (h.pvs hTE)), h.frees.kept hg (.inr (h.pvf hT))⟩
end

theorem grown_of_alloc {w w' : World} {o : Obj} {row : Option Nat} {k : Nat} (h : ((w.drewN k).alloc o).grownBy w' row) : w.grownBy w' row :=
  ⟨h.os, h.tape, h.output, Nat.le_trans (by simp) h.size, fun i hi hne => (h.block i (by simp; omega) hne).trans (Below.heap_alloc (w.drewN k) o i hi)⟩

/-- Another list of free slots, in a row that has grown. -/
theorem ARep.setFree {w w1 : World} {T E : TypeId} {p : Nat} {most gens : Int} {sl : List Slot} {fr fr' : List Int} {live : Int} {vs vf vf' : Value} (h : ARep w T E p most gens sl fr live vs vf) (hTE : E ≠ T) (hT : 3 ≠ T) (hE : E ≠ 3)
    (hg : w.grownBy w1 vf.ownBlock) (hown : w1.ownsRow 0 3 1 vf' fr'.length (fr'.map (Value.int .i64))) : ARep (w1.setCell ⟨p, 3, none⟩ vf') T E p most gens sl fr' live vs vf' := by
  have b1 : Blk w1 p T _ := h.blk.grown hg (fun e => h.pvf hT e.symm)
  have hg2 : w1.grownBy (w1.setCell ⟨p, 3, none⟩ vf') (some p) := ⟨rfl, rfl, rfl, by simp, fun k _ hk => heap_setCell_other w1 ⟨p, 3, none⟩ k _ (fun e => hk (by simp [e]))⟩
  refine ⟨by simpa using b1.set_ 3 vf', (h.slots.kept hg ?_).kept hg2 (.inr (h.pvs hTE)), hown.kept hg2 (.inr (own_blk_ne hown b1 hT))⟩
  cases hv : vs.ownBlock with
  | none => exact .inl rfl
  | some k => exact .inr (fun e => h.vsvf hE hv e.symm)

/-- Another list of slots, in a row that has grown. -/
theorem ARep.setSlots {w w1 : World} {T E : TypeId} {p : Nat} {most gens : Int} {sl sl' : List Slot} {fr : List Int} {live : Int} {vs vs' vf : Value} (h : ARep w T E p most gens sl fr live vs vf) (hTE : E ≠ T) (hT : 3 ≠ T) (hE : E ≠ 3)
    (hg : w.grownBy w1 vs.ownBlock) (hown : w1.ownsRow 0 E 3 vs' sl'.length (sl'.flatMap sc)) : ARep (w1.setCell ⟨p, 2, none⟩ vs') T E p most gens sl' fr live vs' vf := by
  have b1 : Blk w1 p T _ := h.blk.grown hg (fun e => h.pvs hTE e.symm)
  have hg2 : w1.grownBy (w1.setCell ⟨p, 2, none⟩ vs') (some p) := ⟨rfl, rfl, rfl, by simp, fun k _ hk => heap_setCell_other w1 ⟨p, 2, none⟩ k _ (fun e => hk (by simp [e]))⟩
  refine ⟨by simpa using b1.set_ 2 vs', hown.kept hg2 (.inr (own_blk_ne hown b1 hTE)), (h.frees.kept hg ?_).kept hg2 (.inr (h.pvf hT))⟩
  cases hv : vf.ownBlock with
  | none => exact .inl rfl
  | some k => exact .inr (fun e => h.vsvf hE e.symm hv)

theorem ARep.flen {w : World} {T E : TypeId} {p : Nat} {most gens : Int} {sl : List Slot} {fr : List Int} {live : Int} {vs vf : Value} (h : ARep w T E p most gens sl fr live vs vf) :
    ∃ (a : Option Addr) (cap : Nat), vf = .slice a fr.length cap ∧ fr.length ≤ maxLen := by
  rcases h.frees.2 with ⟨rfl, h0⟩ | ⟨g, cap, cur, rfl, _, hg, hnc, hcm, _⟩
  · exact ⟨none, 0, by rw [h0], by rw [h0]; exact Nat.zero_le _⟩
  · exact ⟨_, cap, rfl, Nat.le_trans hnc hcm⟩

/-- The arena's blocks. -/
def foot (p : Nat) (vs vf : Value) (k : Nat) : Prop := k = p ∨ vs.ownBlock = some k ∨ vf.ownBlock = some k

/-- The arena's word behind a call. -/
structure ANow (w w' : World) (T E : TypeId) (p : Nat) (most gens : Int) (sl : List Slot) (fr : List Int) (live : Int) (vs vf vs' vf' : Value) : Prop where
  rep : ARep w' T E p most gens sl fr live vs' vf'
  mod : Mod (foot p vs vf) w w'
  foots : ∀ k, foot p vs' vf' k → k < w.heap.size → foot p vs vf k

theorem ARep.frozen {w : World} {T E : TypeId} {p : Nat} {most gens : Int} {sl : List Slot} {fr : List Int} {live : Int} {vf : Value} {g n cap : Nat} (h : ARep w T E p most gens sl fr live (.slice (some ⟨g, 0, none⟩) n cap) vf) (j : Nat) :
    w.frozen? ⟨g, j, none⟩ = false := by
  have hn : n = sl.length := by
    rcases h.slots.2 with ⟨h1, _⟩ | ⟨g', cap', cur, h1, _⟩
    · cases h1
    · injection h1
  subst hn
  exact h.slots.frozenAt j

theorem ARep.mod {w w' : World} {T E : TypeId} {p : Nat} {most gens : Int} {sl : List Slot} {fr : List Int} {live : Int} {vs vf : Value} {F : Nat → Prop} (h : ARep w T E p most gens sl fr live vs vf)
    (hm : Mod F w w') (hF : ∀ k, foot p vs vf k → ¬ F k) : ARep w' T E p most gens sl fr live vs vf :=
  ⟨h.blk.mod hm (hF p (.inl rfl)), hm.ownsRow h.slots (fun k hk => hF k (.inr (.inl hk))), hm.ownsRow h.frees (fun k hk => hF k (.inr (.inr hk)))⟩

theorem ARep.footlt {w : World} {T E : TypeId} {p : Nat} {most gens : Int} {sl : List Slot} {fr : List Int} {live : Int} {vs vf : Value} (h : ARep w T E p most gens sl fr live vs vf) {k : Nat} (hk : foot p vs vf k) : k < w.heap.size := by
  rcases hk with rfl | hk | hk
  · exact h.blk.lt
  · exact (h.slots.lt k hk).2
  · exact (h.frees.lt k hk).2

set_option maxHeartbeats 400000 in
theorem put_no (w : World) (p : Nat) (most gens : Int) (sl : List Slot) (fr : List Int) (live : Int) (vs vf : Value)
    (h : ARep w 61 65 p most gens sl fr live vs vf) (slot gen v : Int) (hn : ¬ hit sl slot gen) :
    Calls Try.prog 33 #[.pointer (some ⟨p, 0, none⟩), .agg #[.int .i64 slot, .int .i64 gen], .int .i64 v] w fun e w' => e = .returned (.int .i64 32) ∧ Below w.heap.size w w' := by
  have hlt := h.blk.lt
  go_enter Try.func33, Try.ntmps33
  go_wp2_with fail
  refine (find_no _ p most gens sl fr live vs vf (h.keep (balloc (Below.refl _ _) _)) slot gen hn).mono ?_
  rintro e w' ⟨rfl, hb⟩
  go_wp2_with fail
  go_ret
  exact ⟨rfl, (balloc (Below.refl _ _) _).trans (hb.mono (by simp))⟩

set_option maxHeartbeats 400000 in
theorem put_yes (w : World) (p : Nat) (most gens : Int) (sl : List Slot) (fr : List Int) (live : Int) (vs vf : Value)
    (h : ARep w 61 65 p most gens sl fr live vs vf) (i : Nat) (s : Slot) (hi : sl[i]? = some s) (ha : s.alive = true) (gen v : Int) (hg : s.gen = gen) :
    Calls Try.prog 33 #[.pointer (some ⟨p, 0, none⟩), .agg #[.int .i64 i, .int .i64 gen], .int .i64 v] w fun e w' => e = .returned (.int .i64 0) ∧
      ANow w w' 61 65 p most gens (sl.set i { s with thing := .int .i64 v }) fr live vs vf vs vf := by
  have hlt := h.blk.lt
  obtain ⟨g, cap, rfl, hcap, hm, c0, c1, c2⟩ := h.row hi
  have hl : i < sl.length := (List.getElem?_eq_some_iff.1 hi).1
  have hgl := World.block_lt_of_cell? w _ c0
  simp at hgl
  obtain ⟨f0, f1, f2⟩ := flat_at sl i s hi
  go_enter Try.func33, Try.ntmps33
  go_wp2_with fail
  refine (find_yes _ p most gens sl fr live g cap vf (h.keep (balloc (Below.refl _ _) _)) i s hi ha gen hg).mono ?_
  rintro e w' ⟨rfl, hb⟩
  have hb2 := (balloc (Below.refl _ _) _).trans (hb.mono (B' := w.heap.size) (by simp))
  have k2 := (hb2.cell (p := ⟨g, i * 3 + 2, none⟩) hgl).trans c2
  have r2 := h.keep hb2
  have z2 := r2.frozen (i * 3 + 2)
  go_wp2_with fail
  go_ret
  refine ⟨rfl, ⟨r2.setSlot (by decide) (by decide) (i * 3 + 2) (.int .i64 v) _ (by simp) ?_, (Mod.ofBelow hb2).setCell (fun _ => .inr (.inl rfl)) _, fun k hk _ => hk⟩⟩
  rw [flat_set sl i _ hl]
  simp only []
  rw [set_same _ _ _ f0, set_same _ _ _ f1]
end Go.Proofs.Ytppoakomeaamhaa
