/- ChangeParses, walked. -/
import Derived.Test.YtgilflkgibfjgaaGreatDoorCp1Z
import Derived.Test.YtgilflkgibfjgaaGreatDoorFq4Z
import Derived.Test.YtgilflkgibfjgaaGreatDoorBd
import Derived.Test.YtgilflkgibfjgaaGreatDoorCc0Z
namespace Go.Proofs.YtgilflkgibfjgaaGreatDoor
open Go.RowKit
set_option linter.unusedVariables false

theorem refBatch_line (s : ByteArray) (w : World) (hs : s.size ≤ 281474976710656) (hg : Glob w) :
    Calls Tryz.prog 10 #[.string s] w (BPost w (parseB s.data.toList)) := by
  have h := refBatch_any s w _ (startS_good _) (refOpen_any s w hs hg)
  unfold startS at h
  unfold parseB
  by_cases he : (lexR s.data.toList).e = 0
  · rw [if_pos he]
    rw [if_pos he, refB_ok (lex_ended he).1] at h
    exact h
  · rw [if_neg he]
    rw [if_neg he, refB_bad] at h
    exact h

set_option maxHeartbeats 4000000 in
set_option maxRecDepth 100000 in
theorem cparses_law (s : ByteArray) (w : World) (hs : s.size ≤ 140737488351232) (hg : Glob w) :
    Calls Tryz.prog 3 #[.string s] w fun e w' => e = .returned (.bool true) ∧ Below w.heap.size w w' := by
  have hp := batch_any s w (by omega) hg
  have hr := fun W (h : Glob W) => refBatch_line s W (by omega) h
  have ha := fun W (h : Glob W) => awake10 W h
  have hsu := parseB_sure s.data.toList
  have hrw := fun b c => parseB_rows (l := s.data.toList) (b := b) (c := c)
  generalize parseB s.data.toList = P at hp hr hsu hrw
  have HP := Lib.hid hp
  have HR := Lib.hid hr
  have HA := Lib.hid ha
  have HG := Lib.hid hg
  have HRW := Lib.hid hrw
  clear hp hr ha hg hrw
  cases P with
  | bad pa pf =>
    clear hsu
    have k1 : (pa == pa) = true := by simp
    have k2 : (pf == pf) = true := by simp
    go_enter Tryz.func3, Tryz.ntmps3
    go_wp2_with fail
    refine HP.out.mono ?_
    rintro e w1 ⟨rfl, hb1⟩
    have HB1 := Lib.hid hb1
    have HR1 := Lib.hid (HR.out _ (HG.out.below hb1))
    clear hb1
    go_wp2_with fail
    refine HR1.out.mono ?_
    rintro e w2 ⟨rfl, hb2⟩
    have hbb := HB1.out.trans (hb2.mono HB1.out.size)
    have HB2 := Lib.hid hbb
    have HA2 := Lib.hid (HA.out _ (HG.out.below hbb))
    clear hb2 hbb
    go_wp2_with fail
    refine HA2.out.mono ?_
    rintro e w3 ⟨rfl, hb3⟩
    have HB3 := Lib.hid (HB2.out.trans (hb3.mono HB2.out.size))
    have HS := Lib.hid (sameChgs_any w3 (.slice none 0 0) (.slice none 0 0) [] ⟨[], RowAt.nil _ _, trivial⟩ ⟨[], RowAt.nil _ _, trivial⟩)
    clear hb3
    go_wp2_with fail
    refine HS.out.mono ?_
    rintro e w4 ⟨rfl, hb4⟩
    have HB4 := Lib.hid (HB3.out.trans (hb4.mono HB3.out.size))
    clear hb4
    go_wp2_with fail
    go_ret
    exact ⟨by first | rfl | simp, HB4.out⟩
  | ok b c =>
    have hn := hsu.1
    have HRL := Lib.hid (fun (x : Chg) (hx : x ∈ b) => (by have := HRW.out b c rfl x hx; omega : x.row.length ≤ 4398046511104))
    clear hsu
    go_enter Tryz.func3, Tryz.ntmps3
    go_wp2_with fail
    refine HP.out.mono ?_
    rintro e w1 ⟨bv, rfl, hown, hb1⟩
    have hat : ChgsAt w1 bv b := hown.at (by omega) HRL.out
    obtain ⟨ba, bc, rfl, _, _⟩ := hat.form
    have HAT := Lib.hid hat
    have HB1 := Lib.hid hb1
    have HR1 := Lib.hid (HR.out _ (HG.out.below hb1))
    clear hb1 hat hown
    go_wp2_with fail
    refine HR1.out.mono ?_
    rintro e w2 ⟨cv, rfl, hown, hb2⟩
    have hat : ChgsAt w2 cv b := hown.at (by omega) HRL.out
    obtain ⟨ca, cc, rfl, _, _⟩ := hat.form
    have hbb := HB1.out.trans (hb2.mono HB1.out.size)
    have HB2 := Lib.hid hbb
    have HA2 := Lib.hid (HA.out _ (HG.out.below hbb))
    have HAT1 := Lib.hid (HAT.out.keep hb2)
    have HAT2 := Lib.hid hat
    clear hb2 hbb hat hown
    go_wp2_with fail
    refine HA2.out.mono ?_
    rintro e w3 ⟨rfl, hb3⟩
    have HB3 := Lib.hid (HB2.out.trans (hb3.mono HB2.out.size))
    have HS := Lib.hid (sameChgs_any w3 _ _ b (HAT1.out.keep hb3) (HAT2.out.keep hb3))
    clear hb3
    go_wp2_with fail
    refine HS.out.mono ?_
    rintro e w4 ⟨rfl, hb4⟩
    have HB4 := Lib.hid (HB3.out.trans (hb4.mono HB3.out.size))
    clear hb4
    go_wp2_with fail
    go_ret
    exact ⟨by first | rfl | simp, HB4.out⟩
end Go.Proofs.YtgilflkgibfjgaaGreatDoor
