/- SchemaParses, walked. -/
import Derived.Test.YtbehonaegfpmoaaDoorSf1Z
import Derived.Test.YtbehonaegfpmoaaDoorGz
import Derived.Test.YtbehonaegfpmoaaDoorKe
namespace Go.Proofs.YtbehonaegfpmoaaDoor
open Go.RowKit
set_option linter.unusedVariables false

theorem refSch_line (s : ByteArray) (w : World) (hs : s.size ≤ 281474976710656) (hg : Glob w) :
    Calls Tryd.prog 33 #[.string s] w (SPost w (refS (startS (lexR s.data.toList)))) := by
  refine refSch_any s w _ (startS_good _) ?_
  refine (refOpen_any s _ hs (hg.below (balloc (Below.refl _ _) _))).mono ?_
  rintro e w' ⟨b, vt, rfl, h1, h2, h3⟩
  have e1 : (w.alloc (.cells #[.string ⟨#[]⟩, .slice none 0 0] 58)).heap.size = w.heap.size + 1 := by simp
  rw [e1] at h1 h3
  exact ⟨b, vt, rfl, h1, h2, h3⟩
theorem sch_any (s : ByteArray) (w : World) (hs : s.size ≤ 281474976710656) (hg : Glob w) :
    Calls Tryd.prog 32 #[.string s] w (SPost w (refS (startS (lexR s.data.toList)))) := by
  unfold startS
  by_cases he : (lexR s.data.toList).e = 0
  · rw [if_pos he, refS_ok (lex_ended he).1]
    exact sch_line s w hs hg he
  · rw [if_neg he, refS_bad]
    exact sch_fault s w hs hg he
theorem refS_small {l : List UInt8} {q : Rln} {c : List Tok} (h : refS (startS (lexR l)) = .ok q c) : q.cols.length ≤ 5 := by
  unfold startS at h
  by_cases he : (lexR l).e = 0
  · rw [if_pos he, refS_ok (lex_ended he).1] at h
    exact schT_small h
  · rw [if_neg he, refS_bad] at h
    cases h

set_option maxHeartbeats 4000000 in
set_option maxRecDepth 100000 in
theorem sparses_law (s : ByteArray) (w : World) (hs : s.size ≤ 140737488351232) (hg : Glob w) :
    Calls Tryd.prog 7 #[.string s] w fun e w' => e = .returned (.bool true) ∧ Below w.heap.size w w' := by
  have hp := sch_any s w (by omega) hg
  have hr := fun W (h : Glob W) => refSch_line s W (by omega) h
  have ha := fun W (h : Glob W) => awake08 W h
  have hsm := fun q c => refS_small (l := s.data.toList) (q := q) (c := c)
  generalize refS (startS (lexR s.data.toList)) = P at hp hr hsm
  have HP := Lib.hid hp
  have HR := Lib.hid hr
  have HA := Lib.hid ha
  have HG := Lib.hid hg
  have HSM := Lib.hid hsm
  clear hp hr ha hg hsm
  cases P with
  | bad pa pf =>
    go_enter Tryd.func7, Tryd.ntmps7
    go_wp2_with fail
    refine HP.out.mono ?_
    rintro e w1 ⟨rfl, hb1⟩
    have HB1 := Lib.hid (balloc hb1 (.cells #[.string ⟨#[]⟩, .slice none 0 0] 58))
    have HQ1 := Lib.hid (Blk.new w1 58 #[.string ⟨#[]⟩, .slice none 0 0])
    have HR1 := Lib.hid (HR.out _ (HG.out.below HB1.out))
    clear hb1
    go_wp2_with fail
    refine HR1.out.mono ?_
    rintro e w2 ⟨rfl, hb2⟩
    have hb2' := hb2.mono (B' := w.heap.size) (by have := HB1.out.size; exact this)
    have HB2 := Lib.hid (balloc (HB1.out.trans hb2') (.cells #[.string ⟨#[]⟩, .slice none 0 0] 58))
    have HQ2 := Lib.hid (((HQ1.out.below hb2 (by simp)).alloc (.cells #[.string ⟨#[]⟩, .slice none 0 0] 58)))
    have HQ3 := Lib.hid (Blk.new w2 58 #[.string ⟨#[]⟩, .slice none 0 0])
    have HA2 := Lib.hid (HA.out _ (HG.out.below HB2.out))
    have hz2 := hb2.size
    simp at hz2
    clear hb2 hb2'
    go_wp2_with fail
    refine HA2.out.mono ?_
    rintro e w3 ⟨rfl, hb3⟩
    have hq2 := HQ2.out.below hb3 (by simp; omega)
    have hq3 := HQ3.out.below hb3 (by simp)
    have x0 := hq2.cell 0
    have x1 := hq2.cell 1
    have y0 := hq3.cell 0
    have y1 := hq3.cell 1
    simp only [List.getElem?_toArray, List.getElem?_cons_zero, List.getElem?_cons_succ] at x0 x1 y0 y1
    have hl2 := hq2.lt
    have hl3 := hq3.lt
    have HS := Lib.hid (sameRel_any w3 ⟨#[]⟩ (.slice none 0 0) (.slice none 0 0) [] (RowAt.nil _ _) (RowAt.nil _ _))
    have HB3 := Lib.hid (HB2.out.trans (hb3.mono HB2.out.size))
    clear hb3 hq2 hq3
    go_wp2_with fail
    refine HS.out.mono ?_
    rintro e w4 ⟨rfl, hb4⟩
    have HB4 := Lib.hid (HB3.out.trans (hb4.mono HB3.out.size))
    clear hb4
    go_wp2_with fail
    go_ret
    exact ⟨by simp, HB4.out⟩
  | ok q c =>
    have n1 := HSM.out q c rfl
    go_enter Tryd.func7, Tryd.ntmps7
    go_wp2_with fail
    refine HP.out.mono ?_
    rintro e w1 ⟨av, rfl, ha1, hb1⟩
    have ht1 : ColsAt w1 av q.cols := ha1.at (by omega)
    obtain ⟨a1a, a1c, rfl, _, _⟩ := ht1.form
    have HB1 := Lib.hid (balloc hb1 (.cells #[.string ⟨q.name.toArray⟩, .slice a1a q.cols.length a1c] 58))
    have HQ1 := Lib.hid (Blk.new w1 58 #[.string ⟨q.name.toArray⟩, .slice a1a q.cols.length a1c])
    have HT1 := Lib.hid (ht1.keep (balloc (Below.refl _ w1) (.cells #[.string ⟨q.name.toArray⟩, .slice a1a q.cols.length a1c] 58)))
    have HR1 := Lib.hid (HR.out _ (HG.out.below HB1.out))
    clear hb1 ha1 ht1
    go_wp2_with fail
    refine HR1.out.mono ?_
    rintro e w2 ⟨av, rfl, ha2, hb2⟩
    have ht2 : ColsAt w2 av q.cols := ha2.at (by omega)
    obtain ⟨a2a, a2c, rfl, _, _⟩ := ht2.form
    have hb2' := hb2.mono (B' := w.heap.size) (by have := HB1.out.size; exact this)
    have bk2 : Below w2.heap.size w2 (w2.alloc (.cells #[.string ⟨q.name.toArray⟩, .slice a2a q.cols.length a2c] 58)) := balloc (Below.refl _ w2) _
    have HB2 := Lib.hid (balloc (HB1.out.trans hb2') (.cells #[.string ⟨q.name.toArray⟩, .slice a2a q.cols.length a2c] 58))
    have HQ2 := Lib.hid (((HQ1.out.below hb2 (by simp)).alloc (.cells #[.string ⟨q.name.toArray⟩, .slice a2a q.cols.length a2c] 58)))
    have HQ3 := Lib.hid (Blk.new w2 58 #[.string ⟨q.name.toArray⟩, .slice a2a q.cols.length a2c])
    have HT2 := Lib.hid ((HT1.out.keep hb2).keep bk2)
    have HT3 := Lib.hid (ht2.keep bk2)
    have HA2 := Lib.hid (HA.out _ (HG.out.below HB2.out))
    have hz2 := hb2.size
    simp at hz2
    clear hb2 hb2' ha2 ht2 bk2
    go_wp2_with fail
    refine HA2.out.mono ?_
    rintro e w3 ⟨rfl, hb3⟩
    have hq2 := HQ2.out.below hb3 (by simp; omega)
    have hq3 := HQ3.out.below hb3 (by simp)
    have x0 := hq2.cell 0
    have x1 := hq2.cell 1
    have y0 := hq3.cell 0
    have y1 := hq3.cell 1
    simp only [List.getElem?_toArray, List.getElem?_cons_zero, List.getElem?_cons_succ] at x0 x1 y0 y1
    have hl2 := hq2.lt
    have hl3 := hq3.lt
    have HS := Lib.hid (sameRel_any w3 ⟨q.name.toArray⟩ _ _ q.cols (HT2.out.keep hb3) (HT3.out.keep hb3))
    have HB3 := Lib.hid (HB2.out.trans (hb3.mono HB2.out.size))
    clear hb3 hq2 hq3
    go_wp2_with fail
    refine HS.out.mono ?_
    rintro e w4 ⟨rfl, hb4⟩
    have HB4 := Lib.hid (HB3.out.trans (hb4.mono HB3.out.size))
    clear hb4
    go_wp2_with fail
    go_ret
    exact ⟨by simp, HB4.out⟩
end Go.Proofs.YtbehonaegfpmoaaDoor
