/- (*Arena[int]).Clear, walked: a loop over All whose body gives back. -/
import Derived.Test.YtppoakomeaamhaaCl2
namespace Go.Proofs.Ytppoakomeaamhaa
open Go.RowKit Go.Shelf
attribute [local go_sem] Oper.semAt_some
set_option linter.unusedVariables false

section
variable {w W W' : World} {T E : TypeId} {p : Nat} {most gens : Int} {sl sl' : List Slot} {fr fr' : List Int} {live live' : Int} {vs vf vs' vf' : Value}

theorem own_other {row : Option Nat} {base : Nat} {e : TypeId} {size n : Nat} {v : Value} {xs : List Value} (h : W.ownsRow base e size v n xs) (hg : W.grownBy W' row) (hr : ∀ r, row = some r → ∃ o : Obj, W.heap[r]? = some o ∧ o.isCells = false) : W'.ownsRow base e size v n xs := by
  refine h.kept hg ?_
  rcases h.2 with ⟨rfl, _⟩ | ⟨g, cap, cur, rfl, _, hh, _⟩
  · exact .inl rfl
  · right
    intro e1
    obtain ⟨o, ho, hc⟩ := hr g e1.symm
    rw [hh] at ho
    cases ho
    cases hc
theorem blk_other {row : Option Nat} {g : Nat} {t : TypeId} {cs : Array Value} (h : Blk W g t cs) (hg : W.grownBy W' row) (hr : ∀ r, row = some r → ∃ o : Obj, W.heap[r]? = some o ∧ o.isCells = false) : Blk W' g t cs := by
  refine h.grown hg ?_
  intro e1
  obtain ⟨o, ho, hc⟩ := hr g e1.symm
  rw [show W.heap[g]? = _ from h] at ho
  cases ho
  cases hc
/-- The arena lies as it lay where what is no cells turns. -/
theorem ARep.other {row : Option Nat} (h : ARep W T E p most gens sl fr live vs vf) (hg : W.grownBy W' row) (hr : ∀ r, row = some r → ∃ o : Obj, W.heap[r]? = some o ∧ o.isCells = false) : ARep W' T E p most gens sl fr live vs vf :=
  ⟨blk_other h.blk hg hr, own_other h.slots hg hr, own_other h.frees hg hr⟩
/-- What a call of the arena leaves of what is no cells. -/
theorem ANow.keeps (h : ARep W T E p most gens sl fr live vs vf) (hn : ANow W W' T E p most gens sl' fr' live' vs vf vs' vf') : KeepsOthers W W' := by
  refine ⟨hn.mod.size, fun k o hk hc => (hn.mod.block k (Array.getElem?_eq_some_iff.1 hk).1 ?_).trans hk⟩
  rintro (rfl | h1 | h1)
  · rw [show W.heap[k]? = _ from h.blk] at hk
    cases hk
    cases hc
  · rcases h.slots.2 with ⟨rfl, _⟩ | ⟨g, cap, cur, rfl, _, hg, _⟩
    · cases h1
    · simp [Value.ownBlock] at h1
      subst h1
      rw [hg] at hk
      cases hk
      cases hc
  · rcases h.frees.2 with ⟨rfl, _⟩ | ⟨g, cap, cur, rfl, _, hg, _⟩
    · cases h1
    · simp [Value.ownBlock] at h1
      subst h1
      rw [hg] at hk
      cases hk
      cases hc
end

theorem keeps_below {w w' : World} (h : Below w.heap.size w w') : KeepsOthers w w' := ⟨h.size, fun k o hk _ => (h.block k (Array.getElem?_eq_some_iff.1 hk).1).trans hk⟩

/-- What holds between two rounds of Clear. -/
def ClI (w : World) (p : Nat) (most gens : Int) (vs vf : Value) (S : List Slot × List Int) (W : World) : Prop :=
  ∃ vf', ARep W 61 65 p most gens S.1 S.2 (liveN S.1) vs vf' ∧ AInv most gens S.1 S.2 (liveN S.1) ∧ Mod (foot p vs vf) w W ∧
    (∀ k, foot p vs vf' k → k < w.heap.size → foot p vs vf k) ∧ Blk W w.heap.size 30 #[.pointer (some ⟨p, 0, none⟩)]

theorem ClI.other {w W W' : World} {p : Nat} {most gens : Int} {vs vf : Value} {S : List Slot × List Int} {row : Option Nat} (h : ClI w p most gens vs vf S W) (hg : W.grownBy W' row) (hr : ∀ r, row = some r → w.heap.size ≤ r ∧ ∃ o : Obj, W.heap[r]? = some o ∧ o.isCells = false) : ClI w p most gens vs vf S W' := by
  obtain ⟨vf', h1, h2, h3, h4, h5⟩ := h
  have hr' : ∀ r, row = some r → ∃ o : Obj, W.heap[r]? = some o ∧ o.isCells = false := fun r e => (hr r e).2
  exact ⟨vf', h1.other hg hr', h2, h3.grown hg (fun k hk hl => by have := (hr k hk).1; omega), h4, blk_other h5 hg hr'⟩
theorem ClI.keep {w W W' : World} {p : Nat} {most gens : Int} {vs vf : Value} {S : List Slot × List Int} (h : ClI w p most gens vs vf S W) (hb : Below W.heap.size W W') : ClI w p most gens vs vf S W' :=
  h.other (grown_of_below hb) (fun r e => by cases e)
theorem ClI.step {w W W' : World} {p : Nat} {most gens : Int} {vs vf vf' vf'' : Value} {S S' : List Slot × List Int} (h1 : ARep W 61 65 p most gens S.1 S.2 (liveN S.1) vs vf') (h3 : Mod (foot p vs vf) w W)
    (h4 : ∀ k, foot p vs vf' k → k < w.heap.size → foot p vs vf k) (h5 : Blk W w.heap.size 30 #[.pointer (some ⟨p, 0, none⟩)])
    (hn : ANow W W' 61 65 p most gens S'.1 S'.2 (liveN S'.1) vs vf' vs vf'') (hi : AInv most gens S'.1 S'.2 (liveN S'.1)) : ClI w p most gens vs vf S' W' := by
  refine ⟨vf'', hn.rep, hi, h3.trans hn.mod (fun i hi hf => h4 i hf hi), fun k hf hl => h4 k (hn.foots k hf (Nat.lt_of_lt_of_le hl h3.size)) hl, h5.mod hn.mod ?_⟩
  rintro (e | e | e)
  · have hb := h1.blk
    rw [← e] at hb
    exact Blk.ne_ h5 hb (by decide) rfl
  · exact own_blk_ne h1.slots h5 (by decide) e
  · exact own_blk_ne h1.frees h5 (by decide) e

set_option maxRecDepth 100000 in
set_option maxHeartbeats 4000000 in
theorem clear_any (w : World) (p : Nat) (most gens : Int) (sl : List Slot) (fr : List Int) (live : Int) (vs vf : Value)
    (h : ARep w 61 65 p most gens sl fr live vs vf) (hi : AInv most gens sl fr live) (hnum : Nums sl) :
    Calls Try.prog 20 #[.pointer (some ⟨p, 0, none⟩)] w fun e w' => e = .returned (.tuple #[]) ∧
      ∃ vf', ANow w w' 61 65 p most gens (giveAll gens (.int .i64 0) (sl, fr) (told numV sl sl.length)).1 (giveAll gens (.int .i64 0) (sl, fr) (told numV sl sl.length)).2 (liveN (giveAll gens (.int .i64 0) (sl, fr) (told numV sl sl.length)).1) vs vf vs vf' ∧
        AInv most gens (giveAll gens (.int .i64 0) (sl, fr) (told numV sl sl.length)).1 (giveAll gens (.int .i64 0) (sl, fr) (told numV sl sl.length)).2 (liveN (giveAll gens (.int .i64 0) (sl, fr) (told numV sl sl.length)).1) := by
  have hlv := hi.live_eq
  subst hlv
  have hsl : sl.length ≤ 1048576 := by have := hi.len; have := hi.m2; omega
  have hp := h.blk.lt
  have H := Lib.hid h
  have HI := Lib.hid hi
  clear h hi
  refine (callsIn_wide (n := 9)).1 ?_
  refine callsIn_of_wp_marks Try.func20 rfl trivial ?_ rfl
  simp only [Try.ntmps20, List.size_toArray, List.length_cons, List.length_nil, Nat.reduceAdd, Nat.reduceSub, Array.replicate_succ, Array.replicate_zero, List.push_toArray, List.append_toArray, List.nil_append, List.cons_append]
  gi_wp2_with fail
  refine ⟨trivial, ?_⟩
  refine (callsIn_wide.2 (all_any p _)).mono ?_
  rintro e w1 ⟨rfl, rfl⟩
  gi_wp2_with fail
  obtain ⟨W0, hW0⟩ : ∃ W0, ((w.alloc (.cells #[.pointer (some ⟨p, 0, none⟩)] 30)).alloc (.cells #[.pointer (some ⟨p, 0, none⟩)] 30)) = W0 := ⟨_, rfl⟩
  have hz0 : W0.heap.size = w.heap.size + 1 + 1 := by rw [← hW0]; simp
  have hb0 : Below w.heap.size w W0 := by rw [← hW0]; exact balloc (balloc (Below.refl _ _) _) _
  have hbx : Blk W0 w.heap.size 30 #[.pointer (some ⟨p, 0, none⟩)] := by rw [← hW0]; exact (Blk.new _ _ _).alloc _
  have hby : W0.cell? ⟨w.heap.size + 1, 0, none⟩ = some (.pointer (some ⟨p, 0, none⟩)) := by
    rw [← hW0]
    simp
  have hcl : ClI w p most gens vs vf (sl, fr) W0 := ⟨vf, H.out.keep hb0, HI.out, Mod.ofBelow hb0, fun k hk _ => hk, hbx⟩
  rw [hW0]
  have hA0 := H.out.keep hb0
  refine wpIn_rangeFunc_ownH rfl (by omega) (gf := 28) (lb := #[.pointer (some ⟨w.heap.size + 1, 0, none⟩)]) rfl trivial (enters_of Try.func28 (by kernel_rfl) rfl)
    (all_stops 8 (by omega) (w.heap.size + 1) p most gens sl fr (liveN sl) vs vf W0 hby hA0 hnum hsl) (fun h k => KArena.trans h k) (KArena.put (by omega)) (Below.refl _ _) (fun _ => rfl)
    (fun pre W => ClI w p most gens vs vf (giveAll gens (.int .i64 0) (sl, fr) pre) W)
    (fun _ _ _ => False)
    (fun pre A B row hs hg hr => hs.other hg (fun r e => ⟨by have := (hr r e).1; omega, (hr r e).2⟩))
    (fun _ _ _ _ _ hs _ _ => hs)
    hcl
    (fun x a' W => ∃ Bx, Blk W Bx 40 #[.int .i64 (x.1 : Int), .int .i64 x.2.1] ∧ a' = { tmps := #[.pointer (some ⟨p, 0, none⟩), .pointer (some ⟨w.heap.size, 0, none⟩), .pointer (some ⟨Bx, 0, none⟩), .pointer (some ⟨p, 0, none⟩), .func (.func 28) #[] #[.pointer (some ⟨w.heap.size + 1, 0, none⟩)], .agg #[.int .i64 (x.1 : Int), .int .i64 x.2.1], .int .i64 x.2.2, undef, undef, undef], defers := [] })
    (fun x a' _ A B row hs hg hr => by obtain ⟨Bx, h1, h2⟩ := hs; exact ⟨Bx, blk_other h1 hg (fun r e => (hr r e).2), h2⟩)
    ?assign ?body ?done ?stop
  case assign =>
    rintro l pre x W K hi hK
    have hpW : p < W.heap.size := by obtain ⟨_, h1, _⟩ := hi; exact h1.blk.lt
    have HI' := Lib.hid hi
    clear hi
    simp only [encT]
    gi_wp2
    exact hK _ _ ((KeepsOthers.alloc _ _).from _) (KArena.below hpW (balloc (Below.refl _ _) _)) (HI'.out.keep (balloc (Below.refl _ _) _)) ⟨W.heap.size, Blk.new W _ _, rfl⟩
  case body =>
    rintro l pre x a' W hl ⟨r, hr⟩ hi ⟨Bx, hB, rfl⟩ hlen
    have hsn := giveAll_snoc gens (.int .i64 0) (sl, fr) pre x
    generalize giveAll gens (.int .i64 0) (sl, fr) pre = S at hsn hi
    have HSN := Lib.hid hsn
    clear hsn
    obtain ⟨vf', h1, h2, h3, h4, h5⟩ := hi
    obtain ⟨i, g, v⟩ := x
    have b0 := hB.cell 0
    have b1 := hB.cell 1
    have x0 := h5.cell 0
    simp at b0 b1 x0
    have H1 := Lib.hid h1
    have H2 := Lib.hid h2
    have H3 := Lib.hid h3
    have H4 := Lib.hid h4
    have H5 := Lib.hid h5
    have HR := Lib.hid hr
    clear h1 h2 h3 h4 h5 hB hr hW0
    by_cases hh : hit S.1 i g
    · obtain ⟨j, s, he, hs, ha, rfl⟩ := hh
      obtain rfl : i = j := by omega
      have hgh := giveA_hit (gens := gens) (z := .int .i64 0) (fr := S.2) hs ha
      have HS := Lib.hid hs
      have HGH := Lib.hid hgh
      clear hs hgh
      gi_wp2_with fail
      refine ⟨trivial, ?_⟩
      refine (CallsIn.inRound l (callsIn_wide.2 (give_any _ _ _ _ _ _ _ _ _ H1.out H2.out i s HS.out ha s.gen rfl))).mono ?_
      rintro e w5 ⟨fr', vf'', rfl, hnow, hinv, hfr⟩
      have hlv := hinv.live_eq
      have hk := ANow.keeps H1.out hnow
      have hka := KArena.now H1.out (by decide) (by decide) hnow
      rw [hlv] at hnow hinv
      subst hfr
      have hst : ClI w p most gens vs vf (giveA gens (.int .i64 0) S i s.gen) w5 := by
        rw [HGH.out]
        exact ClI.step H1.out H3.out H4.out H5.out hnow hinv
      have HST := Lib.hid hst
      have HK := Lib.hid hk
      have HKA := Lib.hid hka
      clear hst hk hka hnow hinv hlv
      gi_wp2
      refine ⟨HK.out.from _, HKA.out, ?_⟩
      show ClI w p most gens vs vf (giveAll gens (.int .i64 0) (sl, fr) (pre ++ [(i, s.gen, v)])) w5
      rw [HSN.out]
      exact HST.out
    · have HNH := Lib.hid hh
      have hgn := giveA_no (gens := gens) (z := .int .i64 0) hh
      have HGN := Lib.hid hgn
      clear hh hgn
      gi_wp2_with fail
      refine ⟨trivial, ?_⟩
      refine (CallsIn.inRound l (callsIn_wide.2 (give_no _ _ _ _ _ _ _ _ _ H1.out i g HNH.out))).mono ?_
      rintro e w5 ⟨rfl, hb⟩
      have HB := Lib.hid hb
      clear hb
      gi_wp2
      refine ⟨(keeps_below HB.out).from _, KArena.below H1.out.blk.lt HB.out, ?_⟩
      show ClI w p most gens vs vf (giveAll gens (.int .i64 0) (sl, fr) (pre ++ [(i, g, v)])) w5
      rw [HSN.out]
      show ClI w p most gens vs vf (giveA gens (.int .i64 0) S i g) w5
      rw [HGN.out]
      exact ClI.keep ⟨vf', H1.out, H2.out, H3.out, H4.out, H5.out⟩ HB.out
  case done =>
    rintro D ys W hD rfl hi hK
    gi_wp2
    refine ⟨by simp, .inl ⟨_, _, rfl, run_takeDeferred hK, ?_⟩⟩
    have hi2 := hi.other (grownBy_putObj' W D (.deferred none)) (fun r e => by cases e; exact ⟨by omega, _, hK, rfl⟩)
    obtain ⟨vf', h1, h2, h3, h4, h5⟩ := hi2
    exact ⟨_, results_none rfl _ _ _, rfl, vf', ⟨h1, h3, h4⟩, h2⟩
  case stop =>
    rintro D c pre W _ _ h _
    exact h.elim
end Go.Proofs.Ytppoakomeaamhaa
