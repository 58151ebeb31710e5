/- (*Arena[int]).All: the walk over an arena, a contract for whatever loop body. -/
import Derived.RangeFuncNested
import Derived.RangeFuncBound
import Derived.RangeFuncCalls
import Derived.RangeFuncLeaves
import Derived.Shelf.Abstract
import Derived.Shelf.RegionOpen
import Derived.OwnWalkIn
import Derived.TacticsInMore
import Derived.LoopNIn
import Derived.LoopIn
import Derived.Test.YtppoakomeaamhaaCl1
namespace Go.Proofs.Ytppoakomeaamhaa
open Go.RowKit Go.Shelf
attribute [local go_sem] Oper.semAt_some
set_option linter.unusedVariables false

/-- What a walk tells: the slot, its generation, its thing. -/
abbrev Told := Nat × Int × Int
def encT (x : Told) : Array Value := #[.agg #[.int .i64 (x.1 : Int), .int .i64 x.2.1], .int .i64 x.2.2]

/-- Block k holds the slots of the arena at p. -/
def Owns (p : Nat) (w : World) (k : Nat) : Prop := ∃ n cap, w.cell? ⟨p, 2, none⟩ = some (.slice (some ⟨k, 0, none⟩) n cap)

/-- What a loop's body keeps: each row of slots that is not the arena's own. -/
structure KArena (p : Nat) (E : TypeId) (w w' : World) : Prop where
  size : w.heap.size ≤ w'.heap.size
  row : ∀ k cs, w.heap[k]? = some (.cells cs E (0, 0)) → ¬ Owns p w k → w'.heap[k]? = some (.cells cs E (0, 0)) ∧ ¬ Owns p w' k
theorem KArena.refl (p : Nat) (E : TypeId) (w : World) : KArena p E w w := ⟨Nat.le_refl _, fun _ _ h h' => ⟨h, h'⟩⟩
theorem KArena.trans {p : Nat} {E : TypeId} {a b c : World} (h : KArena p E a b) (k : KArena p E b c) : KArena p E a c := ⟨Nat.le_trans h.size k.size, fun i cs hi ho => by
  obtain ⟨h1, h2⟩ := h.row i cs hi ho
  exact k.row i cs h1 h2⟩
theorem KArena.below {p : Nat} {E : TypeId} {w w' : World} (hp : p < w.heap.size) (hb : Below w.heap.size w w') : KArena p E w w' := ⟨hb.size, fun k cs hk ho => by
  refine ⟨(hb.block k (Array.getElem?_eq_some_iff.1 hk).1).trans hk, ?_⟩
  rintro ⟨n, cap, h⟩
  rw [hb.cell (p := ⟨p, 2, none⟩) hp] at h
  exact ho ⟨n, cap, h⟩⟩
theorem KArena.now {p : Nat} {T E : TypeId} {w w' : World} {most gens : Int} {sl sl' : List Slot} {fr fr' : List Int} {live live' : Int} {vs vf vs' vf' : Value} (h : ARep w T E p most gens sl fr live vs vf)
    (hTE : E ≠ T) (hE : E ≠ 3) (hn : ANow w w' T E p most gens sl' fr' live' vs vf vs' vf') : KArena p E w w' := ⟨hn.mod.size, fun k cs hk ho => by
  have hkl := (Array.getElem?_eq_some_iff.1 hk).1
  have hnf : ¬ foot p vs vf k := by
    rintro (rfl | h1 | h1)
    · exact Blk.ne_ (t := E) hk h.blk hTE rfl
    · have h2 := h.blk.cell 2
      simp at h2
      rcases h.slots.2 with ⟨rfl, _⟩ | ⟨g, cap, cur, rfl, _⟩
      · simp [Value.ownBlock] at h1
      · simp [Value.ownBlock] at h1
        subst h1
        exact ho ⟨_, _, h2⟩
    · exact own_blk_ne h.frees hk (fun e => hE e.symm) h1
  refine ⟨(hn.mod.block k hkl hnf).trans hk, ?_⟩
  rintro ⟨n, cap, h2⟩
  have h3 := hn.rep.blk.cell 2
  simp at h3
  rw [h3] at h2
  simp at h2
  subst h2
  exact hnf (hn.foots k (.inr (.inl rfl)) hkl)⟩
theorem KArena.put {p : Nat} {E : TypeId} {w : World} (hp : p < w.heap.size) (W : World) (l : Nat) (o o' : Obj) (hl : w.heap.size ≤ l) (h : W.heap[l]? = some o) (hc : o.isCells = false) (_ : o.isWalk = false) : KArena p E W (W.putObj l o') := ⟨by simp, fun k cs hk ho => by
  have hkl : k ≠ l := by
    rintro rfl
    rw [hk] at h
    cases h
    cases hc
  refine ⟨by rw [World.putObj_heap_other (fun e => hkl (by rw [e]))]; exact hk, ?_⟩
  rintro ⟨n, cap, h2⟩
  have hpl : p ≠ l := by omega
  have : (W.putObj l o').cell? ⟨p, 2, none⟩ = W.cell? ⟨p, 2, none⟩ := World.cell?_of_block (World.putObj_heap_other (fun e => hpl e))
  rw [this] at h2
  exact ho ⟨n, cap, h2⟩⟩

/-- The copy of the slots, as the walk reads it. -/
def Copied (p : Nat) (E : TypeId) (w : World) (v : Value) (n : Nat) (xs : List Value) : Prop := w.ownsRow 0 E 3 v n xs ∧ ∀ k, v.ownBlock = some k → ¬ Owns p w k
theorem Copied.keep {p : Nat} {E : TypeId} {w w' : World} {v : Value} {n : Nat} {xs : List Value} (h : Copied p E w v n xs) (hk : KArena p E w w') : Copied p E w' v n xs := by
  obtain ⟨h1, h2⟩ := h
  rcases h1.2 with h3 | ⟨g, cap, cur, rfl, hb, hg, rest⟩
  · refine ⟨⟨h1.1, .inl h3⟩, ?_⟩
    rw [h3.1]
    intro k hk
    simp [Value.ownBlock] at hk
  · obtain ⟨k1, k2⟩ := hk.row g cur hg (h2 g rfl)
    refine ⟨⟨h1.1, .inr ⟨g, cap, cur, rfl, hb, k1, rest⟩⟩, ?_⟩
    intro k hk
    simp [Value.ownBlock] at hk
    subst hk
    exact k2

theorem own_mono {w : World} {b b' : Nat} {e : TypeId} {size n : Nat} {v : Value} {xs : List Value} (h : w.ownsRow b e size v n xs) (hb : b' ≤ b) : w.ownsRow b' e size v n xs := by
  refine ⟨h.1, ?_⟩
  rcases h.2 with h2 | ⟨g, cap, cur, e1, e2, rest⟩
  · exact .inl h2
  · exact .inr ⟨g, cap, cur, e1, Nat.le_trans hb e2, rest⟩
theorem grown_of_below {w w' : World} (h : Below w.heap.size w w') : w.grownBy w' none := ⟨h.os, h.tape, h.output, h.size, fun k hk _ => h.block k hk⟩
theorem abides_below {β : Type} {B : Nat} {J : β → World → Prop} (h : AbidesFrom B J) {s : β} {w w' : World} (hb : Below w.heap.size w w') (hs : J s w) : J s w' := h s w w' none hs (grown_of_below hb) (fun r e => by cases e)

set_option maxRecDepth 100000 in
set_option maxHeartbeats 4000000 in
theorem all1_in (n : Nat) (hn : 1 ≤ n) (l Bs p : Nat) (most gens : Int) (sl : List Slot) (fr : List Int) (live : Int) (vs vf : Value) (J Jx : List Told → World → Prop) (W : World)
    (hBs : W.cell? ⟨Bs, 0, none⟩ = some (.pointer (some ⟨p, 0, none⟩))) (hA : ARep W 61 65 p most gens sl fr live vs vf) (hnum : Nums sl) (hsl : sl.length ≤ 1048576)
    (hJ : AbidesFrom W.heap.size J)
    (hY : ∀ pre x W1, J pre W1 → pre.length < sl.length → YieldAt Fence.wide (n - 1) Try.prog l (encT x) W1 fun e W' =>
      (e = .returned (.bool true) ∧ J (pre ++ [x]) W' ∧ KArena p 65 W1 W') ∨ (e = .returned (.bool false) ∧ Jx (pre ++ [x]) W'))
    (h0 : J [] W) :
    CallsIn Fence.wide n Try.prog 28 #[.func (.yield l) #[] #[], .pointer (some ⟨Bs, 0, none⟩)] W fun e W' => (∃ v, e = .returned v) ∧
      ((∃ xs, xs = told numV sl sl.length ∧ J xs W') ∨ (∃ pre, pre <+: told numV sl sl.length ∧ Jx pre W')) := by
  refine callsIn_of_wp Try.func28 rfl trivial ?_ rfl
  simp only [Try.ntmps28, List.size_toArray, List.length_cons, List.length_nil, Nat.reduceAdd, Nat.reduceSub, Array.replicate_succ, Array.replicate_zero, List.push_toArray, List.append_toArray, List.nil_append, List.cons_append]
  have hc2 := hA.blk.cell 2
  simp at hc2
  obtain ⟨a0, cap0, rfl, _⟩ := hA.len
  have hp := hA.blk.lt
  have HA := Lib.hid hA
  have HJ := Lib.hid hJ
  have HY := Lib.hid hY
  have H0 := Lib.hid h0
  clear hA hJ hY h0
  gi_wp2_with fail
  refine ⟨trivial, ?_⟩
  refine (callsIn_wide.2 (clone_any _ _ sl HA.out.slots hsl hnum)).mono ?_
  rintro e w1 ⟨v', rfl, hown, hb⟩
  obtain ⟨a1, cap1, rfl, _⟩ := own_len hown
  have hcop : Copied p 65 w1 (.slice a1 sl.length cap1) sl.length (sl.flatMap sc) := by
    refine ⟨own_mono hown (Nat.zero_le _), ?_⟩
    rintro k hk ⟨n', cap', h2⟩
    rw [hb.cell (p := ⟨p, 2, none⟩) hp, hc2] at h2
    simp at h2
    obtain ⟨rfl, _⟩ := h2
    have h3 := (hown.lt k hk).1
    have h4 := (HA.out.slots.lt k rfl).2
    omega
  have hJ1 := abides_below HJ.out hb H0.out
  have HCOP := Lib.hid hcop
  have HJ1 := Lib.hid hJ1
  have hp1 : p < w1.heap.size := Nat.lt_of_lt_of_le hp hb.size
  have hbs := hb.size
  clear hcop hJ1 hown hb hc2 hBs
  gi_wp2
  gi_loopw [11] (fun i wr => ∃ k : Nat, k ≤ sl.length ∧ i = .int .i64 k ∧ J (told numV sl k) wr ∧ Copied p 65 wr (.slice a1 sl.length cap1) sl.length (sl.flatMap sc) ∧ p < wr.heap.size)
    (fun i _ => sl.length - (intOf i).toNat)
  case atStart => exact ⟨0, Nat.zero_le _, rfl, HJ1.out, HCOP.out, hp1⟩
  case round =>
    obtain ⟨k, hk, rfl, hJs, hcp, hws⟩ := hrel
    have HJS := Lib.hid hJs
    have HCP := Lib.hid hcp
    clear hJs hcp
    by_cases hlt : k < sl.length
    · obtain ⟨s, hs⟩ : ∃ s, sl[k]? = some s := ⟨sl[k], List.getElem?_eq_getElem hlt⟩
      obtain ⟨z, hz⟩ := hnum k s hs
      obtain ⟨x0, x1, x2⟩ := flat_at sl k s hs
      obtain ⟨g1, cap1', e1, hg1, hcc, hcm⟩ := own_at HCP.out.1 (show 0 < sl.length by omega)
      simp only [Value.slice.injEq, true_and] at e1
      obtain ⟨rfl, rfl⟩ := e1
      have d0 := (HCP.out.1.cellAt (k * 3) (by omega)).trans x0
      have d1 := (HCP.out.1.cellAt (k * 3 + 1) (by omega)).trans x1
      have d2 := (HCP.out.1.cellAt (k * 3 + 2) (by omega)).trans x2
      rw [hz] at d2
      unfold maxLen at hcm
      have HS := Lib.hid hs
      have HZ := Lib.hid hz
      clear hs hz x0 x1 x2
      cases hal : s.alive with
      | true =>
        rw [hal] at d1
        have HAL := Lib.hid hal
        clear hal
        have hJb := abides_below HJ.out (balloc (Below.refl wr.heap.size wr) (.cells #[.int .i64 s.gen, .bool true, .int .i64 z] 65)) HJS.out
        obtain ⟨fn, tmps, assign, body, hy, hR⟩ := HY.out _ (k, s.gen, z) _ hJb (Nat.lt_of_le_of_lt (told_len _ _ _) hlt)
        unfold encT at hy
        dsimp only at hy
        clear hJb
        gi_wp2
        refine hR.mono ?_
        have HCB := Lib.hid (HCP.out.keep (KArena.below hws (balloc (Below.refl wr.heap.size wr) (.cells #[.int .i64 s.gen, .bool true, .int .i64 z] 65))))
        have hz' : numV s.thing = z := by rw [HZ.out]; rfl
        have HZ' := Lib.hid hz'
        clear hR hy hz'
        rintro e W3 (⟨rfl, hJ3, hk3⟩ | ⟨rfl, hJx3⟩)
        · have HJ3 := Lib.hid hJ3
          have HC3 := Lib.hid (HCB.out.keep hk3)
          have hs3 := hk3.size
          simp only [World.size_alloc] at hs3
          clear hJ3 hk3
          gi_wp2
          go_roundw
          case rel => exact ⟨k + 1, by omega, by simp, by rw [told_yes numV HS.out HAL.out, HZ'.out]; exact HJ3.out, HC3.out, by omega⟩
          case measure => simp [intOf]; omega
        · have HJX := Lib.hid hJx3
          clear hJx3
          gi_wp2
          refine bodyPost_ret (results_none rfl _ _ _) rfl ?_
          exact ⟨⟨_, rfl⟩, .inr ⟨_, (by rw [← HZ'.out, ← told_yes numV HS.out HAL.out]; exact told_prefix _ _ _ _ (by omega)), HJX.out⟩⟩
      | false =>
        rw [hal] at d1
        have HAL := Lib.hid hal
        clear hal
        gi_wp2
        refine ⟨fun _ h => (by cases h), ?_⟩
        gi_wp2
        go_roundw
        case rel => exact ⟨k + 1, by omega, by simp, by rw [told_no numV HS.out HAL.out]; exact abides_below HJ.out (balloc (Below.refl _ _) _) HJS.out, HCP.out.keep (KArena.below hws (balloc (Below.refl _ _) _)), by simp; omega⟩
        case measure => simp [intOf]; omega
    · obtain rfl : k = sl.length := by omega
      gi_wp2
      go_end0
      exact ⟨⟨_, rfl⟩, .inl ⟨_, rfl, HJS.out⟩⟩

set_option maxHeartbeats 1000000 in
theorem all_any (p : Nat) (w : World) : Calls Try.prog 19 #[.pointer (some ⟨p, 0, none⟩)] w fun e w' =>
    e = .returned (.func (.func 28) #[] #[.pointer (some ⟨w.heap.size, 0, none⟩)]) ∧ w' = w.alloc (.cells #[.pointer (some ⟨p, 0, none⟩)] 30) := by
  have hmf : ∀ (fn : Fn) (first cap : Array Value) (w : World), (Instr.makeFunc fn first cap).run Try.prog w = .ok (.func fn first cap) w := fun _ _ _ _ => rfl
  go_enter Try.func19, Try.ntmps19
  go_wp2
  go_ret
  exact ⟨rfl, rfl⟩

theorem all_stops (n : Nat) (hn : 1 ≤ n) (Bs p : Nat) (most gens : Int) (sl : List Slot) (fr : List Int) (live : Int) (vs vf : Value) (w : World) (hBs : w.cell? ⟨Bs, 0, none⟩ = some (.pointer (some ⟨p, 0, none⟩)))
    (hA : ARep w 61 65 p most gens sl fr live vs vf) (hnum : Nums sl) (hsl : sl.length ≤ 1048576) :
    SeqStopsK Fence.wide n Try.prog 28 #[.pointer (some ⟨Bs, 0, none⟩)] encT (KArena p 65) (fun xs => xs = told numV sl sl.length) (fun pre => pre <+: told numV sl sl.length) sl.length w :=
  fun l J Jx W hW hJ hJx hY h0 =>
    all1_in n hn l Bs p most gens sl fr live vs vf J Jx W ((hW.cell (p := ⟨Bs, 0, none⟩) (World.block_lt_of_cell? w _ hBs)).trans hBs) (hA.keep hW) hnum hsl hJ hY h0
end Go.Proofs.Ytppoakomeaamhaa
