/- osierlaw03.ArenaStops: what holds between two rounds of its walk. -/
import Derived.Test.YtppoakomeaamhaaFi1
namespace Go.Proofs.Ytppoakomeaamhaa
open Go.RowKit Go.Shelf
attribute [local go_sem] Oper.semAt_some
set_option linter.unusedVariables false

/-- The boxes of ArenaStops and its arena: stop in b3, the result in b4, the arena's pointer in b5, seen in b8. -/
structure StM (w W : World) (b3 b4 b5 b8 p : Nat) (stop seen : Int) (sl : List Slot) (fr : List Int) (live : Int) (vs vf : Value) : Prop where
  rep : ARep W 61 65 p 3000 9 sl fr live vs vf
  inv : AInv 3000 9 sl fr live
  num : Nums sl
  low : ∀ k, foot p vs vf k → w.heap.size ≤ k ∧ k ≠ b3 ∧ k ≠ b4 ∧ k ≠ b5 ∧ k ≠ b8
  x3 : Blk W b3 3 #[.int .i64 stop]
  x4 : ∃ r, Blk W b4 4 #[.bool r]
  x5 : Blk W b5 30 #[.pointer (some ⟨p, 0, none⟩)]
  x8 : Blk W b8 3 #[.int .i64 seen]
  bel : Below w.heap.size w W
  l4 : w.heap.size ≤ b4
  l8 : w.heap.size ≤ b8
  n38 : b3 ≠ b8

section
variable {w W W' : World} {b3 b4 b5 b8 p : Nat} {stop seen : Int} {sl sl' : List Slot} {fr fr' : List Int} {live live' : Int} {vs vf vs' vf' : Value}
theorem StM.other {row : Option Nat} (h : StM w W b3 b4 b5 b8 p stop seen sl fr live vs vf) (hg : W.grownBy W' row) (hr : ∀ r, row = some r → w.heap.size ≤ r ∧ ∃ o : Obj, W.heap[r]? = some o ∧ o.isCells = false) : StM w W' b3 b4 b5 b8 p stop seen sl fr live vs vf := by
  have hr' : ∀ r, row = some r → ∃ o : Obj, W.heap[r]? = some o ∧ o.isCells = false := fun r e => (hr r e).2
  obtain ⟨r4, x4⟩ := h.x4
  exact ⟨h.rep.other hg hr', h.inv, h.num, h.low, blk_other h.x3 hg hr', ⟨r4, blk_other x4 hg hr'⟩, blk_other h.x5 hg hr', blk_other h.x8 hg hr',
    h.bel.trans (((Mod.refl (fun k => row = some k) _).grown hg (fun k hk _ => hk)).below h.bel.size (fun k hk => (hr k hk).1)), h.l4, h.l8, h.n38⟩
theorem StM.keep (h : StM w W b3 b4 b5 b8 p stop seen sl fr live vs vf) (hb : Below W.heap.size W W') : StM w W' b3 b4 b5 b8 p stop seen sl fr live vs vf :=
  h.other (grown_of_below hb) (fun r e => by cases e)
theorem StM.step (h : StM w W b3 b4 b5 b8 p stop seen sl fr live vs vf) (hn : ANow W W' 61 65 p 3000 9 sl' fr' live' vs vf vs' vf') (hi : AInv 3000 9 sl' fr' live') (hu : Nums sl') : StM w W' b3 b4 b5 b8 p stop seen sl' fr' live' vs' vf' := by
  obtain ⟨r4, x4⟩ := h.x4
  refine ⟨hn.rep, hi, hu, ?_, h.x3.mod hn.mod (fun f => (h.low _ f).2.1 rfl), ⟨r4, x4.mod hn.mod (fun f => (h.low _ f).2.2.1 rfl)⟩, h.x5.mod hn.mod (fun f => (h.low _ f).2.2.2.1 rfl), h.x8.mod hn.mod (fun f => (h.low _ f).2.2.2.2 rfl), h.bel.trans (hn.mod.below h.bel.size (fun k f => (h.low k f).1)), h.l4, h.l8, h.n38⟩
  intro k hf
  rcases Nat.lt_or_ge k W.heap.size with hlt | hge
  · exact h.low k (hn.foots k hf hlt)
  · have e3 := h.x3.lt
    have e4 := x4.lt
    have e5 := h.x5.lt
    have e8 := h.x8.lt
    exact ⟨Nat.le_trans h.bel.size hge, by omega, by omega, by omega, by omega⟩
/-- A store into a box that is the arena's no row. -/
theorem ARep.box {most gens : Int} {b : Nat} (h : ARep W 61 65 p most gens sl fr live vs vf) (hb : ¬ foot p vs vf b) (u : Value) : ARep (W.setCell ⟨b, 0, none⟩ u) 61 65 p most gens sl fr live vs vf :=
  h.mod (F := fun k => k = b) ((Mod.refl (fun k => k = b) _).setCell (p := ⟨b, 0, none⟩) (fun _ => rfl) u) (fun k hf e => hb (by rw [← e]; exact hf))
theorem StM.setSeen (h : StM w W b3 b4 b5 b8 p stop seen sl fr live vs vf) (v : Int) : StM w (W.setCell ⟨b8, 0, none⟩ (.int .i64 v)) b3 b4 b5 b8 p stop v sl fr live vs vf := by
  obtain ⟨r4, x4⟩ := h.x4
  have n48 : b4 ≠ b8 := Blk.ne_ x4 h.x8 (by decide)
  have n58 : b5 ≠ b8 := Blk.ne_ h.x5 h.x8 (by decide)
  exact ⟨h.rep.box (fun f => (h.low _ f).2.2.2.2 rfl) _, h.inv, h.num, h.low, h.x3.far (p := ⟨b8, 0, none⟩) h.n38 _, ⟨r4, x4.far (p := ⟨b8, 0, none⟩) n48 _⟩, h.x5.far (p := ⟨b8, 0, none⟩) n58 _, by simpa using h.x8.set_ 0 (.int .i64 v), h.bel.setCell h.l8 _, h.l4, h.l8, h.n38⟩
theorem StM.setRes (h : StM w W b3 b4 b5 b8 p stop seen sl fr live vs vf) (v : Bool) : StM w (W.setCell ⟨b4, 0, none⟩ (.bool v)) b3 b4 b5 b8 p stop seen sl fr live vs vf := by
  obtain ⟨r4, x4⟩ := h.x4
  have n34 : b3 ≠ b4 := Blk.ne_ h.x3 x4 (by decide)
  have n54 : b5 ≠ b4 := Blk.ne_ h.x5 x4 (by decide)
  have n84 : b8 ≠ b4 := Blk.ne_ h.x8 x4 (by decide)
  exact ⟨h.rep.box (fun f => (h.low _ f).2.2.1 rfl) _, h.inv, h.num, h.low, h.x3.far (p := ⟨b4, 0, none⟩) n34 _, ⟨v, by simpa using x4.set_ 0 (.bool v)⟩, h.x5.far (p := ⟨b4, 0, none⟩) n54 _, h.x8.far (p := ⟨b4, 0, none⟩) n84 _, h.bel.setCell h.l4 _, h.l4, h.l8, h.n38⟩
theorem KArena.box {E t : TypeId} {b : Nat} {cs : Array Value} (hb : Blk W b t cs) (hE : E ≠ t) (hp : p ≠ b) (u : Value) : KArena p E W (W.setCell ⟨b, 0, none⟩ u) := ⟨by simp, fun k ks hk ho => by
  have hkb : k ≠ b := Blk.ne_ (t := E) hk hb hE
  refine ⟨(Below.heap_setCell W ⟨b, 0, none⟩ u k hkb).trans hk, ?_⟩
  rintro ⟨n, cap, h⟩
  rw [World.cell?_of_block (Below.heap_setCell W ⟨b, 0, none⟩ u p hp)] at h
  exact ho ⟨n, cap, h⟩⟩
end

/-- What a step of the body keeps. -/
structure BK (p : Nat) (W W' : World) : Prop where
  k : KeepsOthers W W'
  a : KArena p 65 W W'
theorem BK.refl (p : Nat) (W : World) : BK p W W := ⟨KeepsOthers.refl _, KArena.refl _ _ _⟩
theorem BK.trans {p : Nat} {A B C : World} (h : BK p A B) (k : BK p B C) : BK p A C := ⟨h.k.trans k.k, h.a.trans k.a⟩
theorem BK.below {p : Nat} {A B : World} (hp : p < A.heap.size) (h : Below A.heap.size A B) : BK p A B := ⟨keeps_below h, KArena.below hp h⟩
theorem BK.now {p : Nat} {most gens : Int} {A B : World} {sl sl' : List Slot} {fr fr' : List Int} {live live' : Int} {vs vf vs' vf' : Value} (h : ARep A 61 65 p most gens sl fr live vs vf)
    (hn : ANow A B 61 65 p most gens sl' fr' live' vs vf vs' vf') : BK p A B := ⟨ANow.keeps h hn, KArena.now h (by decide) (by decide) hn⟩
theorem BK.box {p b : Nat} {t : TypeId} {cs : Array Value} {W : World} (hb : Blk W b t cs) (hE : 65 ≠ t) (hp : p ≠ b) (u : Value) : BK p W (W.setCell ⟨b, 0, none⟩ u) := ⟨KeepsOthers.setCell _ _ _, KArena.box hb hE hp u⟩

/-- What holds between two rounds: pre has come. -/
def StI (w : World) (b8 : Nat) (stop : Int) (seen : Nat) (W : World) : Prop :=
  ∃ sl fr live vs vf, StM w W w.heap.size (w.heap.size + 1) (w.heap.size + 1 + 1 + 1) b8 (w.heap.size + 1 + 1) stop (seen : Int) sl fr live vs vf
theorem StI.other {w W W' : World} {b8 : Nat} {stop : Int} {seen : Nat} {row : Option Nat} (h : StI w b8 stop seen W) (hg : W.grownBy W' row) (hr : ∀ r, row = some r → w.heap.size ≤ r ∧ ∃ o : Obj, W.heap[r]? = some o ∧ o.isCells = false) : StI w b8 stop seen W' := by
  obtain ⟨sl, fr, live, vs, vf, h⟩ := h
  exact ⟨sl, fr, live, vs, vf, h.other hg hr⟩
theorem StI.keep {w W W' : World} {b8 : Nat} {stop : Int} {seen : Nat} (h : StI w b8 stop seen W) (hb : Below W.heap.size W W') : StI w b8 stop seen W' :=
  h.other (grown_of_below hb) (fun r e => by cases e)
/-- What a call in the body leaves. -/
def StC (w W : World) (b8 : Nat) (stop : Int) (seen : Nat) (w' : World) : Prop := StI w b8 stop seen w' ∧ BK (w.heap.size + 1 + 1) W w'
theorem take_st (w W : World) (b8 : Nat) (stop : Int) (seen : Nat) (v : Int) (h : StI w b8 stop seen W) :
    Calls Try.prog 16 #[.pointer (some ⟨w.heap.size + 1 + 1, 0, none⟩), .int .i64 v] W fun e w' => ∃ a b c, e = .returned (.tuple #[.agg #[.int .i64 a, .int .i64 b], .int .i64 c]) ∧ StC w W b8 stop seen w' := by
  obtain ⟨sl, fr, live, vs, vf, h⟩ := h
  refine (take_any W _ _ _ sl fr live vs vf v h.rep h.inv).mono ?_
  rintro e w' (⟨rfl, hb, _, _⟩ | ⟨i', g', sl', fr', vs', vf', rfl, hnow, hinv', htk, _⟩)
  · exact ⟨_, _, _, rfl, ⟨sl, fr, live, vs, vf, h.keep hb⟩, BK.below h.rep.blk.lt hb⟩
  · exact ⟨_, _, _, rfl, ⟨sl', fr', live + 1, vs', vf', h.step hnow hinv' (h.num.taken htk)⟩, BK.now h.rep hnow⟩
theorem give_st (w W : World) (b8 : Nat) (stop : Int) (seen : Nat) (i g : Int) (h : StI w b8 stop seen W) :
    Calls Try.prog 15 #[.pointer (some ⟨w.heap.size + 1 + 1, 0, none⟩), .agg #[.int .i64 i, .int .i64 g]] W fun e w' => ∃ a, e = .returned (.int .i64 a) ∧ StC w W b8 stop seen w' := by
  obtain ⟨sl, fr, live, vs, vf, h⟩ := h
  by_cases hh : hit sl i g
  · obtain ⟨j, s, rfl, hs, ha, rfl⟩ := hh
    refine (give_any W _ _ _ sl fr live vs vf h.rep h.inv j s hs ha s.gen rfl).mono ?_
    rintro e w' ⟨fr', vf', rfl, hnow, hinv', _⟩
    exact ⟨_, rfl, ⟨_, fr', live - 1, vs, vf', h.step hnow hinv' (h.num.set _ _ ⟨0, rfl⟩)⟩, BK.now h.rep hnow⟩
  · refine (give_no W _ _ _ sl fr live vs vf h.rep i g hh).mono ?_
    rintro e w' ⟨rfl, hb⟩
    exact ⟨_, rfl, ⟨sl, fr, live, vs, vf, h.keep hb⟩, BK.below h.rep.blk.lt hb⟩
theorem StI.seen {w W : World} {b8 : Nat} {stop : Int} {seen : Nat} (h : StI w b8 stop seen W) : W.cell? ⟨b8, 0, none⟩ = some (.int .i64 (seen : Int)) ∧ W.frozen? ⟨b8, 0, none⟩ = false ∧ W.cell? ⟨w.heap.size + 1 + 1 + 1, 0, none⟩ = some (.pointer (some ⟨w.heap.size + 1 + 1, 0, none⟩)) ∧
    W.cell? ⟨w.heap.size, 0, none⟩ = some (.int .i64 stop) ∧ (∃ r, W.cell? ⟨w.heap.size + 1, 0, none⟩ = some (.bool r)) ∧ W.frozen? ⟨w.heap.size + 1, 0, none⟩ = false := by
  obtain ⟨sl, fr, live, vs, vf, h⟩ := h
  have x3 := h.x3.cell 0
  have x5 := h.x5.cell 0
  have x8 := h.x8.cell 0
  have y8 := h.x8.frozen 0
  obtain ⟨r4, hx4⟩ := h.x4
  have x4 := hx4.cell 0
  have y4 := hx4.frozen 0
  simp at x3 x4 x5 x8
  exact ⟨x8, y8, x5, x3, ⟨r4, x4⟩, y4⟩
theorem StI.belo {w W : World} {b8 : Nat} {stop : Int} {seen : Nat} (h : StI w b8 stop seen W) : Below w.heap.size w W := by
  obtain ⟨sl, fr, live, vs, vf, h⟩ := h
  exact h.bel
theorem StI.more {w W : World} {b8 : Nat} {stop : Int} {seen : Nat} (h : StI w b8 stop seen W) : StC w W b8 stop (seen + 1) (W.setCell ⟨b8, 0, none⟩ (.int .i64 ((seen : Int) + 1))) := by
  obtain ⟨sl, fr, live, vs, vf, h⟩ := h
  refine ⟨⟨sl, fr, live, vs, vf, by simpa using h.setSeen ((seen : Int) + 1)⟩, BK.box h.x8 (by decide) (fun e => ?_) _⟩
  have := h.rep.blk
  rw [e] at this
  exact Blk.ne_ this h.x8 (by decide) rfl

/-- How a round is left early: a wrong thing came, or stop have been seen. -/
def StX (w : World) (b8 : Nat) (stop : Int) (c : Code) (pre : List Told) (W : World) : Prop :=
  ∃ pre0 x, pre = pre0 ++ [x] ∧ ((c = .ret ∧ x ≠ (pre0.length, 1, (pre0.length : Int))) ∨ (c = .exit 2 ∧ (pre0.length : Int) = stop ∧ StI w b8 stop pre0.length W))

/-- The same ahead of the walk: no seen yet. -/
structure StT (w W : World) (b3 b4 b5 p : Nat) (stop : Int) (sl : List Slot) (fr : List Int) (live : Int) (vs vf : Value) : Prop where
  rep : ARep W 61 65 p 3000 9 sl fr live vs vf
  inv : AInv 3000 9 sl fr live
  num : Nums sl
  low : ∀ k, foot p vs vf k → w.heap.size ≤ k ∧ k ≠ b3 ∧ k ≠ b4 ∧ k ≠ b5
  x3 : Blk W b3 3 #[.int .i64 stop]
  x4 : Blk W b4 4 #[.bool false]
  x5 : Blk W b5 30 #[.pointer (some ⟨p, 0, none⟩)]
  bel : Below w.heap.size w W
  l4 : w.heap.size ≤ b4

theorem StT.step {w W W' : World} {b3 b4 b5 p : Nat} {stop : Int} {sl sl' : List Slot} {fr fr' : List Int} {live live' : Int} {vs vf vs' vf' : Value} (h : StT w W b3 b4 b5 p stop sl fr live vs vf) (hn : ANow W W' 61 65 p 3000 9 sl' fr' live' vs vf vs' vf') (hi : AInv 3000 9 sl' fr' live') (hu : Nums sl') : StT w W' b3 b4 b5 p stop sl' fr' live' vs' vf' := by
  refine ⟨hn.rep, hi, hu, ?_, h.x3.mod hn.mod (fun f => (h.low _ f).2.1 rfl), h.x4.mod hn.mod (fun f => (h.low _ f).2.2.1 rfl), h.x5.mod hn.mod (fun f => (h.low _ f).2.2.2 rfl), h.bel.trans (hn.mod.below h.bel.size (fun k f => (h.low k f).1)), h.l4⟩
  intro k hf
  rcases Nat.lt_or_ge k W.heap.size with hlt | hge
  · exact h.low k (hn.foots k hf hlt)
  · have e3 := h.x3.lt
    have e4 := h.x4.lt
    have e5 := h.x5.lt
    exact ⟨Nat.le_trans h.bel.size hge, by omega, by omega, by omega⟩
theorem StT.toM {w W : World} {b3 b4 b5 p : Nat} {stop : Int} {sl : List Slot} {fr : List Int} {live : Int} {vs vf : Value} (h : StT w W b3 b4 b5 p stop sl fr live vs vf) : StM w (W.alloc (.cells #[.int .i64 0] 3)) b3 b4 b5 W.heap.size p stop 0 sl fr live vs vf := by
  have hb := balloc (Below.refl W.heap.size W) (.cells #[.int .i64 0] 3)
  refine ⟨h.rep.keep hb, h.inv, h.num, fun k f => ?_, h.x3.alloc _, ⟨false, h.x4.alloc _⟩, h.x5.alloc _, Blk.new _ _ _, h.bel.trans (hb.mono h.bel.size), h.l4, h.bel.size, ?_⟩
  · obtain ⟨k1, k2, k3, k4⟩ := h.low k f
    have := h.rep.footlt f
    exact ⟨k1, k2, k3, k4, by omega⟩
  · have := h.x3.lt
    omega
theorem stt_start (w : World) (stop : Int) : StT w (((((w.alloc (.cells #[.int .i64 stop] 3)).alloc (.cells #[.bool false] 4)).alloc (.cells #[.int .i64 3000, .int .i64 9, .slice none 0 0, .slice none 0 0, .int .i64 0] 61))).alloc (.cells #[.pointer (some ⟨w.heap.size + 1 + 1, 0, none⟩)] 30))
    w.heap.size (w.heap.size + 1) (w.heap.size + 1 + 1 + 1) (w.heap.size + 1 + 1) stop [] [] 0 (.slice none 0 0) (.slice none 0 0) := by
  have hA := (empty_rep ((w.alloc (.cells #[.int .i64 stop] 3)).alloc (.cells #[.bool false] 4)) 61 65 3000 9).keep (balloc (Below.refl _ _) (.cells #[.pointer (some ⟨w.heap.size + 1 + 1, 0, none⟩)] 30))
  have h4 := Blk.new (w.alloc (.cells #[.int .i64 stop] 3)) 4 #[.bool false]
  have h5 := Blk.new ((((w.alloc (.cells #[.int .i64 stop] 3)).alloc (.cells #[.bool false] 4)).alloc (.cells #[.int .i64 3000, .int .i64 9, .slice none 0 0, .slice none 0 0, .int .i64 0] 61))) 30 #[.pointer (some ⟨w.heap.size + 1 + 1, 0, none⟩)]
  simp only [World.size_alloc] at hA h4 h5
  refine ⟨hA, inv_empty 3000 9 (by omega) (by omega) (by omega) (by omega), Nums.nil, ?_, (((Blk.new w _ _).alloc _).alloc _).alloc _, (h4.alloc _).alloc _, h5, balloc (balloc (balloc (balloc (Below.refl _ _) _) _) _) _, by omega⟩
  rintro k (rfl | hk | hk)
  · omega
  · cases hk
  · cases hk

/-- What ArenaStops takes: slot k holds k, in the first generation. -/
def first (t : Nat) : List Slot := (List.range t).map fun (k : Nat) => ⟨1, true, .int .i64 (k : Int)⟩
theorem first_len (t : Nat) : (first t).length = t := by simp [first]
theorem first_succ (t : Nat) : first (t + 1) = first t ++ [⟨1, true, .int .i64 (t : Int)⟩] := by simp [first, List.range_succ]
theorem first_at (t k : Nat) (h : k < t) : (first t)[k]? = some ⟨1, true, .int .i64 (k : Int)⟩ := by simp [first, h]
theorem first_nums (t : Nat) : Nums (first t) := by
  intro i s h
  have hl : i < t := by have := (List.getElem?_eq_some_iff.1 h).1; simpa [first_len] using this
  rw [first_at t i hl] at h
  simp at h
  subst h
  exact ⟨_, rfl⟩
theorem first_told (t : Nat) : ∀ k, k ≤ t → told numV (first t) k = (List.range k).map fun (j : Nat) => (j, 1, (j : Int)) := by
  intro k
  induction k with
  | zero => intro _; rfl
  | succ k ih =>
    intro hk
    rw [told_yes numV (first_at t k (by omega)) rfl, ih (by omega), List.range_succ]
    simp [numV]
/-- What is told at a place is what was taken there. -/
theorem first_next {t : Nat} {pre : List (Nat × Int × Int)} {x : Nat × Int × Int} (h : pre ++ [x] <+: told numV (first t) t) : x = (pre.length, 1, (pre.length : Int)) ∧ pre.length < t := by
  rw [first_told t t (Nat.le_refl _)] at h
  have hl := h.length_le
  simp at hl
  refine ⟨?_, by omega⟩
  obtain ⟨r, hr⟩ := h
  have h1 := congrArg (fun l => l[pre.length]?) hr
  simp at h1
  rw [List.getElem?_range (by omega)] at h1
  simp at h1
  exact h1
end Go.Proofs.Ytppoakomeaamhaa
