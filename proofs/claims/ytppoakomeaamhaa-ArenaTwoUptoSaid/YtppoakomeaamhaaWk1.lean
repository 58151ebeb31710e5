/- osierlaw03.walks, walked: All tells what the document tells. -/
import Derived.Test.YtppoakomeaamhaaSm2
import Derived.Test.YtppoakomeaamhaaCl3
import Derived.Test.YtppoakomeaamhaaQr0
import Derived.Sort.QuietIn
namespace Go.Proofs.Ytppoakomeaamhaa
open Go.RowKit Go.Shelf
attribute [local go_sem] Oper.semAt_some
set_option linter.unusedVariables false

/-- The boxes of walks: the result in b4, the wanted list in b5, the count in b6. -/
structure WkM (w W : World) (b4 b5 b6 : Nat) (v : Value) (x : List One) (n : Int) : Prop where
  x4 : ∃ r, Blk W b4 4 #[.bool r]
  x5 : Blk W b5 50 #[v]
  x6 : Blk W b6 3 #[.int .i64 n]
  row : W.ownsRow w.heap.size 72 5 v x.length (x.flatMap oc)
  bel : Below w.heap.size w W
  l4 : w.heap.size ≤ b4
  l6 : w.heap.size ≤ b6

section
variable {w W W' : World} {b4 b5 b6 : Nat} {v : Value} {x : List One} {n : Int}
theorem WkM.other {row : Option Nat} (h : WkM w W b4 b5 b6 v x n) (hg : W.grownBy W' row) (hr : ∀ r, row = some r → w.heap.size ≤ r ∧ ∃ o : Obj, W.heap[r]? = some o ∧ o.isCells = false) : WkM w W' b4 b5 b6 v x n := by
  have hr' : ∀ r, row = some r → ∃ o : Obj, W.heap[r]? = some o ∧ o.isCells = false := fun r e => (hr r e).2
  obtain ⟨r4, x4⟩ := h.x4
  exact ⟨⟨r4, blk_other x4 hg hr'⟩, blk_other h.x5 hg hr', blk_other h.x6 hg hr', own_other h.row hg hr',
    h.bel.trans (((Mod.refl (fun k => row = some k) _).grown hg (fun k hk _ => hk)).below h.bel.size (fun k hk => (hr k hk).1)), h.l4, h.l6⟩
theorem WkM.keep (h : WkM w W b4 b5 b6 v x n) (hb : Below W.heap.size W W') : WkM w W' b4 b5 b6 v x n := h.other (grown_of_below hb) (fun r e => by cases e)
theorem WkM.count (h : WkM w W b4 b5 b6 v x n) (m : Int) : WkM w (W.setCell ⟨b6, 0, none⟩ (.int .i64 m)) b4 b5 b6 v x m := by
  obtain ⟨r4, x4⟩ := h.x4
  have n46 : b4 ≠ b6 := Blk.ne_ x4 h.x6 (by decide)
  have n56 : b5 ≠ b6 := Blk.ne_ h.x5 h.x6 (by decide)
  have hg : W.grownBy (W.setCell ⟨b6, 0, none⟩ (.int .i64 m)) (some b6) := ⟨rfl, rfl, rfl, by simp, fun k _ hk => heap_setCell_other W ⟨b6, 0, none⟩ k _ (fun e => hk (by simp [e]))⟩
  exact ⟨⟨r4, x4.far (p := ⟨b6, 0, none⟩) n46 _⟩, h.x5.far (p := ⟨b6, 0, none⟩) n56 _, by simpa using h.x6.set_ 0 (.int .i64 m), h.row.kept hg (.inr (own_blk_ne h.row h.x6 (by decide))), h.bel.setCell h.l6 _, h.l4, h.l6⟩
end

theorem karena_box {W : World} {p : Nat} {E t : TypeId} {b : Nat} {cs : Array Value} (hb : Blk W b t cs) (hE : E ≠ t) (hp : p ≠ b) (u : Value) : KArena p E W (W.setCell ⟨b, 0, none⟩ u) := ⟨by simp, fun k ks hk ho => by
  have hkb : k ≠ b := Blk.ne_ (t := E) hk hb hE
  refine ⟨(Below.heap_setCell W ⟨b, 0, none⟩ u k hkb).trans hk, ?_⟩
  rintro ⟨n, cap, h⟩
  rw [World.cell?_of_block (Below.heap_setCell W ⟨b, 0, none⟩ u p hp)] at h
  exact ho ⟨n, cap, h⟩⟩

/-- How the walk is left early: what came is not what was wanted. -/
def WkX (x : List One) (c : Code) (pre : List Told) : Prop := c = .ret ∧ ∃ pre0 y, pre = pre0 ++ [y] ∧ ∀ o, x[pre0.length]? = some o → ¬ (o.slot = y.1 ∧ o.gen = y.2.1 ∧ o.thing = y.2.2)

set_option maxRecDepth 100000 in
set_option maxHeartbeats 16000000 in
theorem walks_any (w : World) (p d : Nat) (most gens clock slots2 gens2 : Int) (sl : List Slot) (fr : List Int) (live : Int) (vs vf va : Value) (all : List One)
    (h : ARep w 61 65 p most gens sl fr live vs vf) (hi : AInv most gens sl fr live) (hu : Nums sl) (hd : DRep w d slots2 gens2 all clock va) (hs : Sim sl fr all clock) (hl : all.length ≤ 1000000000000) :
    Calls Try.prog 25 #[.pointer (some ⟨p, 0, none⟩), .pointer (some ⟨d, 0, none⟩)] w fun e w' => e = .returned (.bool true) ∧ Below w.heap.size w w' := by
  have hsl : sl.length ≤ 1048576 := by have := hi.len; have := hi.m2; omega
  have hp := h.blk.lt
  have H := Lib.hid h
  have HD := Lib.hid hd
  have HS := Lib.hid hs
  clear h hd hs
  refine (callsIn_wide (n := 9)).1 ?_
  refine callsIn_of_wp_marks Try.func25 rfl trivial ?_ rfl
  simp only [Try.ntmps25, List.size_toArray, List.length_cons, List.length_nil, Nat.reduceAdd, Nat.reduceSub, Array.replicate_succ, Array.replicate_zero, List.push_toArray, List.append_toArray, List.nil_append, List.cons_append]
  gi_wp2_with fail
  refine ⟨trivial, ?_⟩
  refine (callsIn_wide.2 (live_ref _ d slots2 gens2 clock all va (HD.out.keep (balloc (Below.refl _ _) _)) hl)).mono ?_
  rintro e w1 ⟨v', x, rfl, hlr, hown, hb⟩
  obtain ⟨ax, capx, rfl, hlx⟩ := own_len hown
  have htold := HS.out.toldEq hu hlr
  have HTE := Lib.hid htold
  have hxl := hlr.len
  have hb1 : Below w.heap.size w w1 := (balloc (Below.refl _ _) _).trans (hb.mono (by simp))
  have hx4 : Blk w1 w.heap.size 4 #[.bool false] := (Blk.new w 4 #[.bool false]).below hb (by simp)
  have hwz := hb1.size
  unfold maxLen at hlx
  have hm0 : WkM w ((w1.alloc (.cells #[.slice ax x.length capx] 50)).alloc (.cells #[.int .i64 0] 3)) w.heap.size w1.heap.size (w1.heap.size + 1) (.slice ax x.length capx) x 0 := by
    have h6 := Blk.new (w1.alloc (.cells #[.slice ax x.length capx] 50)) 3 #[.int .i64 0]
    rw [World.size_alloc] at h6
    exact ⟨⟨false, (hx4.alloc _).alloc _⟩, (Blk.new _ _ _).alloc _, h6, own_mono ((hown.alloc _).alloc _) (by simp), balloc (balloc hb1 _) _, Nat.le_refl _, by omega⟩
  have HM0 := Lib.hid hm0
  clear htold hlr hown hb hb1 hx4 hm0
  gi_wp2_with fail
  refine ⟨trivial, ?_⟩
  refine (callsIn_wide.2 (all_any p _)).mono ?_
  rintro e w2 ⟨rfl, rfl⟩
  gi_wp2_with fail
  obtain ⟨W0, hW0⟩ : ∃ W0, (((w1.alloc (.cells #[.slice ax x.length capx] 50)).alloc (.cells #[.int .i64 0] 3)).alloc (.cells #[.pointer (some ⟨p, 0, none⟩)] 30)) = W0 := ⟨_, rfl⟩
  have hz0 : W0.heap.size = w1.heap.size + 1 + 1 + 1 := by rw [← hW0]; simp
  have hM0 := HM0.out.keep (balloc (Below.refl _ _) (.cells #[.pointer (some ⟨p, 0, none⟩)] 30))
  rw [hW0] at hM0
  have hby : W0.cell? ⟨w1.heap.size + 1 + 1, 0, none⟩ = some (.pointer (some ⟨p, 0, none⟩)) := by
    have h7 := Blk.new ((w1.alloc (.cells #[.slice ax x.length capx] 50)).alloc (.cells #[.int .i64 0] 3)) 30 #[.pointer (some ⟨p, 0, none⟩)]
    simp only [World.size_alloc] at h7
    rw [hW0] at h7
    have := h7.cell 0
    simpa using this
  have hA0 := H.out.keep hM0.bel
  rw [hW0]
  refine wpIn_rangeFunc_ownH rfl (by omega) (gf := 28) (lb := #[.pointer (some ⟨w1.heap.size + 1 + 1, 0, none⟩)]) rfl trivial (enters_of Try.func28 (by kernel_rfl) rfl)
    (all_stops 8 (by omega) (w1.heap.size + 1 + 1) p most gens sl fr live vs vf W0 hby hA0 hu hsl) (fun h k => KArena.trans h k) (KArena.put (by omega)) (Below.refl _ _) (fun _ => rfl)
    (fun pre W => WkM w W w.heap.size w1.heap.size (w1.heap.size + 1) (.slice ax x.length capx) x (pre.length : Int))
    (fun c pre _ => WkX x c pre)
    (fun pre A B row hs hg hr => hs.other hg (fun r e => ⟨by have := (hr r e).1; omega, (hr r e).2⟩))
    (fun c pre A B row hs _ _ => hs)
    (by simpa using hM0)
    (fun y a' W => ∃ Bx, Blk W Bx 40 #[.int .i64 (y.1 : Int), .int .i64 y.2.1] ∧ a' = { tmps := #[.pointer (some ⟨p, 0, none⟩), .pointer (some ⟨d, 0, none⟩), undef, undef, .pointer (some ⟨w.heap.size, 0, none⟩), .pointer (some ⟨w1.heap.size, 0, none⟩), .pointer (some ⟨w1.heap.size + 1, 0, none⟩), .pointer (some ⟨Bx, 0, none⟩), .int .i64 y.2.2,
      .pointer (some ⟨d, 0, none⟩), .slice ax x.length capx, .pointer (some ⟨p, 0, none⟩), .func (.func 28) #[] #[.pointer (some ⟨w1.heap.size + 1 + 1, 0, none⟩)], .agg #[.int .i64 (y.1 : Int), .int .i64 y.2.1], .int .i64 y.2.2,
      undef, undef, undef, undef, undef, undef, undef, undef, undef, undef, undef, undef, undef, undef, undef, undef, undef, undef, undef, undef, undef, undef, undef, undef, undef, undef, undef, undef, undef, undef, undef, undef, undef, undef, undef, undef, undef, undef, undef], defers := [] })
    (fun y a' _ A B row hs hg hr => by obtain ⟨Bx, h1, h2⟩ := hs; exact ⟨Bx, blk_other h1 hg (fun r e => (hr r e).2), h2⟩)
    ?assign ?body ?done ?stop
  case assign =>
    rintro l pre y W K hi' hK
    have hpW : p < W.heap.size := Nat.lt_of_lt_of_le hp hi'.bel.size
    have HI' := Lib.hid hi'
    clear hi' hW0
    simp only [encT]
    gi_wp2
    exact hK _ _ ((KeepsOthers.alloc _ _).from _) (KArena.below hpW (balloc (Below.refl _ _) _)) (HI'.out.keep (balloc (Below.refl _ _) _)) ⟨W.heap.size, Blk.new W _ _, rfl⟩
  case body =>
    rintro l pre y a' W hlw ⟨r, hr⟩ hm ⟨Bx, hB, rfl⟩ hlen
    obtain ⟨i, g, v⟩ := y
    generalize hml : pre.length = m at *
    have b0 := hB.cell 0
    have b1 := hB.cell 1
    have x5 := hm.x5.cell 0
    have x6 := hm.x6.cell 0
    have y6 := hm.x6.frozen 0
    obtain ⟨r4, hx4⟩ := hm.x4
    have x4 := hx4.cell 0
    have y4 := hx4.frozen 0
    simp at b0 b1 x4 x5 x6
    have HM := Lib.hid hm
    have HR := Lib.hid hr
    have HB := Lib.hid hB
    have HML := Lib.hid hml
    clear hm hr hB hx4 hW0 hml
    by_cases hlm : m < x.length
    · obtain ⟨g1, cap', e1, hg1, hcc, hcm⟩ := own_at HM.out.row (show 0 < x.length by omega)
      simp only [Value.slice.injEq, true_and] at e1
      obtain ⟨rfl, rfl⟩ := e1
      have ho : x[m]? = some x[m] := List.getElem?_eq_getElem hlm
      generalize x[m] = o at ho
      obtain ⟨z0, z1, z2, _, _⟩ := oc_at x m o ho
      have d0 := (HM.out.row.cellAt (m * 5) (by omega)).trans z0
      have d1 := (HM.out.row.cellAt (m * 5 + 1) (by omega)).trans z1
      have d2 := (HM.out.row.cellAt (m * 5 + 2) (by omega)).trans z2
      have HO := Lib.hid ho
      clear z0 z1 z2 ho
      have q1 : decide (x.length ≤ m) = false := decide_eq_false (by omega)
      have q2 : decide ((x.length : Int) ≤ (m : Int)) = false := decide_eq_false (by omega)
      unfold maxLen at hcm
      by_cases hx : o.slot = (i : Int) ∧ o.gen = g ∧ o.thing = v
      · obtain ⟨e0, e1, e2⟩ := hx
        have k0 : ((i : Int) != o.slot) = false := by rw [e0]; simp
        have k1 : (g != o.gen) = false := by rw [e1]; simp
        have k2 : (v != o.thing) = false := by rw [e2]; simp
        clear e0 e1 e2
        gi_wp2_with fail
        refine quiet_round rfl (by kernel_rfl) (by kernel_rfl) (by kernel_rfl) ?_
        repeat (gi_big_quiet_step (fail))
        refine wpQuietIn_nil ?_
        intro _ hw'
        obtain ⟨nq, hw''⟩ := hw'
        subst hw''
        gi_wp2
        have hdn : Below W.heap.size W (W.drewN nq) := bdrewN (Below.refl _ _) _
        have hpw : p < W.heap.size := Nat.lt_of_lt_of_le hp HM.out.bel.size
        have hmd := HM.out.keep hdn
        have hpre : (((pre ++ [((i, g, v) : Told)]).length : Nat) : Int) = (m : Int) + 1 := by simp [HML.out]
        refine ⟨((keeps_below hdn).trans (KeepsOthers.setCell _ _ _)).from _, (KArena.below hpw hdn).trans (karena_box hmd.x6 (by decide) (by omega) _), ?_⟩
        show WkM w _ w.heap.size w1.heap.size (w1.heap.size + 1) _ x (((pre ++ [((i, g, v) : Told)]).length : Nat) : Int)
        rw [hpre]
        exact hmd.count _
      · have hor : ((i : Int) != o.slot) = true ∨ (((i : Int) != o.slot) = false ∧ (g != o.gen) = true) ∨ (((i : Int) != o.slot) = false ∧ (g != o.gen) = false ∧ (v != o.thing) = true) := by
          by_cases e0 : o.slot = (i : Int)
          · by_cases e1 : o.gen = g
            · exact .inr (.inr ⟨by rw [e0]; simp, by rw [e1]; simp, bne_iff_ne.2 (fun e2 => hx ⟨e0, e1, e2.symm⟩)⟩)
            · exact .inr (.inl ⟨by rw [e0]; simp, bne_iff_ne.2 (fun e => e1 e.symm)⟩)
          · exact .inl (bne_iff_ne.2 (fun e => e0 e.symm))
        have hwx : WkX x .ret (pre ++ [((i, g, v) : Told)]) := ⟨rfl, pre, (i, g, v), rfl, fun q hq => by
          rw [HML.out, HO.out] at hq
          simp at hq
          subst hq
          exact hx⟩
        have HWX := Lib.hid hwx
        clear hwx hx
        rcases hor with k0 | ⟨k0, k1⟩ | ⟨k0, k1, k2⟩
        all_goals
          gi_wp2_with fail
          refine quiet_round rfl (by kernel_rfl) (by kernel_rfl) (by kernel_rfl) ?_
          repeat (gi_big_quiet_step (fail))
          refine wpQuietIn_nil ?_
          intro _ hw'
          obtain ⟨nq, hw''⟩ := hw'
          subst hw''
          gi_wp2
          exact ⟨((keeps_below (bdrewN (Below.refl _ _) _)).trans (KeepsOthers.setCell _ _ _)).from _, HWX.out⟩
    · have hwx : WkX x .ret (pre ++ [((i, g, v) : Told)]) := ⟨rfl, pre, (i, g, v), rfl, fun q hq => by
        rw [HML.out] at hq
        exact absurd (List.getElem?_eq_some_iff.1 hq).1 hlm⟩
      have HWX := Lib.hid hwx
      have q1 : decide (x.length ≤ m) = true := decide_eq_true (by omega)
      clear hwx hlm
      gi_wp2_with fail
      refine quiet_round rfl (by kernel_rfl) (by kernel_rfl) (by kernel_rfl) ?_
      repeat (gi_big_quiet_step (fail))
      refine wpQuietIn_nil ?_
      intro _ hw'
      obtain ⟨nq, hw''⟩ := hw'
      subst hw''
      gi_wp2
      exact ⟨((keeps_below (bdrewN (Below.refl _ _) _)).trans (KeepsOthers.setCell _ _ _)).from _, HWX.out⟩
  case done =>
    rintro D ys W hD rfl hm hK
    have hlen : (told numV sl sl.length).length = x.length := by
      have := congrArg List.length HTE.out
      simpa using this.symm
    rw [hlen] at hm
    have x5 := hm.x5.cell 0
    have x6 := hm.x6.cell 0
    obtain ⟨r4, hx4⟩ := hm.x4
    have x4 := hx4.cell 0
    have y4 := hx4.frozen 0
    simp at x4 x5 x6
    have k1 : ((x.length : Int) == (x.length : Int)) = true := by simp
    have HM := Lib.hid hm
    have hc5 := World.cell?_setCell_same' W ⟨w.heap.size, 0, none⟩ (.bool true) (by rw [x4]; rfl)
    have HC5 := Lib.hid hc5
    have HK := Lib.hid ((KeepsOthers.setCell W ⟨w.heap.size, 0, none⟩ (.bool true)).same D _ hK rfl)
    clear hm hx4 hW0 hlen hc5 hK
    gi_wp2
    have hK' := HK.out
    refine ⟨by simp, .inl ⟨_, _, rfl, run_takeDeferred hK', ?_⟩⟩
    have hc5 := cell_kept HC5.out (grownBy_putObj' _ D (.deferred none)) (fun r e => by cases e; exact ⟨_, hK', rfl⟩)
    refine ⟨.bool true, ?_, rfl, (HM.out.bel.setCell (p := ⟨w.heap.size, 0, none⟩) (Nat.le_refl _) _).trans (belowK_b (w := w) (Nat.le_refl _) _ D _ _ (by omega) hK' rfl rfl)⟩
    simp [results, Try.f25, go_sem, hc5]
  case stop =>
    rintro D c pre W hD hpre ⟨rfl, pre0, y, rfl, hx⟩ hK
    exfalso
    obtain ⟨r, hr⟩ := hpre
    have h1 : (told numV sl sl.length)[pre0.length]? = some y := by rw [← hr]; simp
    have h2 := congrArg (fun l => l[pre0.length]?) HTE.out
    simp only [List.getElem?_map, h1, Option.map_some] at h2
    cases hq : x[pre0.length]? with
    | none => rw [hq] at h2; simp at h2
    | some q =>
      rw [hq] at h2
      simp at h2
      exact hx q hq h2
end Go.Proofs.Ytppoakomeaamhaa
