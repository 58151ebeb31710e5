/- QueryMatches, walked. -/
import Derived.Test.YtbehonaegfpmoaaDoorRm1Z
import Derived.Test.YtbehonaegfpmoaaDoorGz
namespace Go.Proofs.YtbehonaegfpmoaaDoor
open Go.RowKit
set_option linter.unusedVariables false

theorem ownTrm {w : World} {B : Nat} {v : Value} {ts : List Trm} (h : w.ownsRow B 54 4 v ts.length (ts.map Trm.cells).flatten) (hn : ts.length ≤ 2932031007317) : RowAt w v 4 (ts.map Trm.cells) :=
  RowAt.ofOwn h (by simp) (trm_len _) (by simp; omega)
theorem ownVl {w : World} {B : Nat} {v : Value} {vs : List Vl} (h : w.ownsRow B 52 3 v vs.length (vs.map Vl.cells).flatten) (hn : vs.length ≤ 4398046511104) : RowAt w v 3 (vs.map Vl.cells) :=
  RowAt.ofOwn h (by simp) (vl_len _) (by simp; omega)
theorem ownVl' {w : World} {B : Nat} {v : Value} {vs : List Vl} (h : w.ownsRow B 52 3 v vs.length (vs.flatMap Vl.cells)) (hn : vs.length ≤ 4398046511104) : RowAt w v 3 (vs.map Vl.cells) :=
  ownVl (by rw [map_flatV]; exact h) hn
theorem matchR_len {ts : List Trm} {vs l : List Vl} (h : matchR ts vs = some l) : l.length ≤ ts.length := by
  by_cases hl : vs.length = ts.length
  · by_cases hk : okP (ts.zip vs)
    · rw [matchR_ok hl hk] at h
      simp only [Option.some.injEq] at h
      rw [← h, valsP_len]
      exact atomVars_len ts
    · rw [matchR_no hl hk] at h
      cases h
  · unfold matchR at h
    rw [if_neg hl] at h
    cases h

set_option maxHeartbeats 4000000 in
set_option maxRecDepth 100000 in
theorem matches_law (w : World) (rel : ByteArray) (tv rv : Value) (ts : List Trm) (vs : List Vl) (h : RowAt w tv 4 (ts.map Trm.cells)) (hr : RowAt w rv 3 (vs.map Vl.cells)) (hn : ts.length ≤ 2932031007317) (hv : vs.length ≤ 4398046511104) (hg : Glob w) :
    Calls Tryd.prog 5 #[.agg #[.string rel, tv], rv] w fun e w' => e = .returned (.bool true) ∧ Below w.heap.size w w' := by
  obtain ⟨ad, cap, rfl, hnc, hcm⟩ := h.form
  obtain ⟨rd, rcap, rfl, hrc, hrm⟩ := hr.form
  simp only [List.length_map] at h hr hnc hrc ⊢
  generalize hN : ts.length = n at *
  generalize hM : vs.length = m at *
  have HN := Lib.hid hN
  have HM := Lib.hid hM
  clear hN hM
  have bx := Blk.new w 39 #[.string rel, .slice ad n cap]
  have hb0 : Below w.heap.size w (w.alloc (.cells #[.string rel, .slice ad n cap] 39)) := balloc (Below.refl _ _) _
  have hca := copyAtom_any (w.alloc (.cells #[.string rel, .slice ad n cap] 39)) rel (.slice ad n cap) ts (h.keep hb0) (by rw [HN.out]; exact hn)
  rw [HN.out] at hca
  have hlen := fun l (hh : matchR ts vs = some l) => matchR_len hh
  have hma : ∀ (W : World) (a b : Value), RowAt W a 4 (ts.map Trm.cells) → RowAt W b 3 (vs.map Vl.cells) → Calls Tryd.prog 27 #[.agg #[.string rel, a], b] W (MatchPost W (matchR ts vs)) := fun W a b h1 h2 => match_any W rel a b ts vs h1 h2 (by rw [HN.out]; exact hn) (by rw [HM.out]; exact hv)
  have hmr : ∀ (W : World) (a b : Value), RowAt W a 4 (ts.map Trm.cells) → RowAt W b 3 (vs.map Vl.cells) → Calls Tryd.prog 29 #[.agg #[.string rel, a], b] W (MatchPost W (matchR ts vs)) := fun W a b h1 h2 => refMatch_any W rel a b ts vs h1 h2 (by rw [HN.out]; exact hn) (by rw [HM.out]; exact hv)
  rw [HN.out] at hlen
  generalize matchR ts vs = RES at *
  have HMA := Lib.hid hma
  have HMR := Lib.hid hmr
  have HCA := Lib.hid hca
  have HR := Lib.hid h
  have HRR := Lib.hid hr
  have BX := Lib.hid bx
  have HB0 := Lib.hid hb0
  have HG := Lib.hid hg
  have HLEN := Lib.hid hlen
  clear hca h hr bx hb0 hg hlen hma hmr
  go_enter Tryd.func5, Tryd.ntmps5
  go_wp2_with fail
  refine HCA.out.mono ?_
  rintro e w1 ⟨tv1, rfl, hown1, hb1⟩
  obtain ⟨ta, tc, rfl⟩ := own_sl hown1
  have HT1 : Hid (RowAt w1 (.slice ta n tc) 4 (ts.map Trm.cells)) := Lib.hid (ownTrm (by rw [HN.out]; exact hown1) (by rw [HN.out]; exact hn))
  have hbw1 : Below w.heap.size w w1 := HB0.out.trans (hb1.mono (by simp))
  have HB1 := Lib.hid hbw1
  have HX1 := Lib.hid (BX.out.below hb1 (by simp))
  have hc1 := copyRow_any w1 (.slice rd m rcap) vs (HRR.out.keep hbw1) (by rw [HM.out]; exact hv)
  rw [HM.out] at hc1
  have HC1 := Lib.hid hc1
  clear hown1 hb1 hbw1 hc1
  go_wp2_with fail
  refine HC1.out.mono ?_
  rintro e w2 ⟨rv1, rfl, hown2, hb2⟩
  obtain ⟨ra, rc, rfl⟩ := own_sl hown2
  have HR2 : Hid (RowAt w2 (.slice ra m rc) 3 (vs.map Vl.cells)) := Lib.hid (ownVl (by rw [HM.out]; exact hown2) (by rw [HM.out]; exact hv))
  have hbw2 : Below w.heap.size w w2 := HB1.out.trans (hb2.mono HB1.out.size)
  have HB2 := Lib.hid hbw2
  have HX2 := Lib.hid (HX1.out.below hb2 HX1.out.lt)
  have HM2 := Lib.hid (HMA.out w2 (.slice ta n tc) (.slice ra m rc) (HT1.out.keep hb2) HR2.out)
  clear hown2 hb2 hbw2
  cases RES with
  | none =>
    go_wp2_with fail
    refine HM2.out.mono ?_
    rintro e w3 ⟨rfl, hb3⟩
    have hbw3 : Below w.heap.size w w3 := HB2.out.trans (hb3.mono HB2.out.size)
    have hx3 := HX2.out.below hb3 HX2.out.lt
    have x0 := hx3.cell 0
    have x1 := hx3.cell 1
    simp only [List.getElem?_toArray, List.getElem?_cons_zero, List.getElem?_cons_succ] at x0 x1
    have hxl := hx3.lt
    have HB3 := Lib.hid hbw3
    have HMR3 := Lib.hid (HMR.out w3 (.slice ad n cap) (.slice rd m rcap) (HR.out.keep hbw3) (HRR.out.keep hbw3))
    clear hb3 hbw3 hx3
    go_wp2_with fail
    refine HMR3.out.mono ?_
    rintro e w4 ⟨rfl, hb4⟩
    have hbw4 : Below w.heap.size w w4 := HB3.out.trans (hb4.mono HB3.out.size)
    have HB4 := Lib.hid hbw4
    have HA4 := Lib.hid (awake09 w4 (HG.out.below hbw4))
    clear hb4 hbw4
    go_wp2_with fail
    refine HA4.out.mono ?_
    rintro e w5 ⟨rfl, hb5⟩
    have hbw5 : Below w.heap.size w w5 := HB4.out.trans (hb5.mono HB4.out.size)
    have HB5 := Lib.hid hbw5
    have hs5 := sameRow_any w5 (.slice none 0 0) (.slice none 0 0) [] [] (RowAt.nil _ _) (RowAt.nil _ _)
    have HS5 := Lib.hid hs5
    clear hb5 hbw5 hs5
    go_wp2_with fail
    refine HS5.out.mono ?_
    rintro e w6 ⟨rfl, hb6⟩
    have HB6 := Lib.hid (HB5.out.trans (hb6.mono HB5.out.size))
    clear hb6
    go_wp2_with fail
    go_ret
    exact ⟨rfl, HB6.out⟩
  | some l =>
    have hll := HLEN.out l rfl
    go_wp2_with fail
    refine HM2.out.mono ?_
    rintro e w3 ⟨va, rfl, hown3, hb3⟩
    have hra : RowAt w3 va 3 (l.map Vl.cells) := ownVl' hown3 (by omega)
    obtain ⟨v1, c1, rfl⟩ := own_sl hown3
    have HRA := Lib.hid hra
    have hbw3 : Below w.heap.size w w3 := HB2.out.trans (hb3.mono HB2.out.size)
    have hx3 := HX2.out.below hb3 HX2.out.lt
    have x0 := hx3.cell 0
    have x1 := hx3.cell 1
    simp only [List.getElem?_toArray, List.getElem?_cons_zero, List.getElem?_cons_succ] at x0 x1
    have hxl := hx3.lt
    have HB3 := Lib.hid hbw3
    have HMR3 := Lib.hid (HMR.out w3 (.slice ad n cap) (.slice rd m rcap) (HR.out.keep hbw3) (HRR.out.keep hbw3))
    clear hb3 hbw3 hx3 hown3 hra
    go_wp2_with fail
    refine HMR3.out.mono ?_
    rintro e w4 ⟨vb, rfl, hown4, hb4⟩
    have hrb : RowAt w4 vb 3 (l.map Vl.cells) := ownVl' hown4 (by omega)
    obtain ⟨v2, c2, rfl⟩ := own_sl hown4
    have HRB := Lib.hid hrb
    have HRA4 := Lib.hid (HRA.out.keep hb4)
    have hbw4 : Below w.heap.size w w4 := HB3.out.trans (hb4.mono HB3.out.size)
    have HB4 := Lib.hid hbw4
    have HA4 := Lib.hid (awake09 w4 (HG.out.below hbw4))
    clear hb4 hbw4 hown4 hrb
    go_wp2_with fail
    refine HA4.out.mono ?_
    rintro e w5 ⟨rfl, hb5⟩
    have hbw5 : Below w.heap.size w w5 := HB4.out.trans (hb5.mono HB4.out.size)
    have HB5 := Lib.hid hbw5
    have hs5 := sameRow_any w5 _ _ l l (HRA4.out.keep hb5) (HRB.out.keep hb5)
    have hsv : sameV l l = true := decide_eq_true rfl
    rw [hsv] at hs5
    have HS5 := Lib.hid hs5
    clear hb5 hbw5 hs5 hsv
    go_wp2_with fail
    refine HS5.out.mono ?_
    rintro e w6 ⟨rfl, hb6⟩
    have HB6 := Lib.hid (HB5.out.trans (hb6.mono HB5.out.size))
    clear hb6
    go_wp2_with fail
    go_ret
    exact ⟨rfl, HB6.out⟩
theorem matches_card (rel : ByteArray) (tv rv : Value) (w : World) {ts : List Trm} {vs : List Vl} (h : RowAt w tv 4 (ts.map Trm.cells)) (hn : ts.length ≤ 2932031007317) (hr : RowAt w rv 3 (vs.map Vl.cells)) (hv : vs.length ≤ 4398046511104) (hg : Glob w) :
    Calls Tryd.prog 5 #[.agg #[.string rel, tv], rv] w fun e w' => e = .returned (.bool true) ∧ Below w.heap.size w w' := matches_law w rel tv rv ts vs h hr hn hv hg
end Go.Proofs.YtbehonaegfpmoaaDoor
