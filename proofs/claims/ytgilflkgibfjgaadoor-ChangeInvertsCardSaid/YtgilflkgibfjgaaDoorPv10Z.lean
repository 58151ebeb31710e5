/- ChangeInverts, walked. -/
import Derived.Test.YtgilflkgibfjgaaDoorBd
import Derived.Test.YtgilflkgibfjgaaDoorCc0Z
import Derived.Test.YtgilflkgibfjgaaDoorInv2Z
namespace Go.Proofs.YtgilflkgibfjgaaDoor
open Go.RowKit
set_option linter.unusedVariables false

theorem inv_rows {l : List Chg} (h : ∀ c ∈ l, c.row.length ≤ 4398046511104) : ∀ c ∈ invB l, c.row.length ≤ 4398046511104 := by
  intro c hc
  unfold invB at hc
  rw [List.mem_reverse] at hc
  obtain ⟨d, hd, rfl⟩ := List.mem_map.1 hc
  exact h d hd

set_option maxHeartbeats 4000000 in
set_option maxRecDepth 100000 in
theorem cinv_card (v : Value) (w : World) {l : List Chg} (h : ChgsAt w v l) (hr : RangeB l) (hz : ∀ c ∈ l, c.rel.length ≤ 140737488351232) (hn : l.length ≤ 2932031007402) (hg : Glob w) :
    Calls Tryd.prog 12 #[v] w fun e w' => e = .returned (.bool true) ∧ Below w.heap.size w w' := by
  have hcp := copyB_any w v l h hn
  have hrl := h.rows
  have hil := inv_rows hrl
  have hin := inv_len l
  have hii := inv_inv l
  have HINV := Lib.hid (fun W u (hu : ChgsAt W u l) => invert_any W u l hu hn)
  have HINW := Lib.hid (fun W u (hu : ChgsAt W u (invB l)) => invert_any W u (invB l) hu (by rw [hin]; exact hn))
  have HRI := Lib.hid (fun W u (hu : ChgsAt W u l) => refInv_any W u l hu hn)
  rw [hii] at HINW
  obtain ⟨ba, bc, rfl, _, _⟩ := h.form
  have HB := Lib.hid h
  have HCP := Lib.hid hcp
  have HG := Lib.hid hg
  have HRL := Lib.hid hrl
  have HIL := Lib.hid hil
  clear h hcp hg hr hz hrl hil hii
  generalize invB l = V at *
  generalize hN : l.length = n at *
  have HN := Lib.hid hN
  have HVN := Lib.hid hin
  clear hN hin
  go_enter Tryd.func12, Tryd.ntmps12
  go_wp2_with fail
  refine HCP.out.mono ?_
  rintro e w1 ⟨cv, rfl, hown, hb1⟩
  have hat := hown.at (by rw [HN.out]; omega) HRL.out
  obtain ⟨ca, cc, rfl, _, _⟩ := hat.form
  rw [HN.out] at hat
  have HAT := Lib.hid hat
  have HB1 := Lib.hid hb1
  have HBB := Lib.hid (HB.out.keep hb1)
  have HI1 := Lib.hid (HINV.out w1 _ hat)
  rw [HN.out]
  clear hown hat hb1
  go_wp2_with fail
  refine HI1.out.mono ?_
  rintro e w2 ⟨iv, rfl, hown, hb2⟩
  have hat := hown.at (by rw [HVN.out]; omega) HIL.out
  obtain ⟨ia, ic, rfl, _, _⟩ := hat.form
  rw [HVN.out] at hat
  have hbb := HB1.out.trans (hb2.mono HB1.out.size)
  have HIV := Lib.hid hat
  have HIN2 := Lib.hid (HAT.out.keep hb2)
  have HBB2 := Lib.hid (HBB.out.keep hb2)
  have HB2 := Lib.hid hbb
  have HAW := Lib.hid (awake10 _ (HG.out.below hbb))
  rw [HVN.out]
  clear hown hat hb2 hbb HAT HBB HI1
  go_wp2_with fail
  refine HAW.out.mono ?_
  rintro e w3 ⟨rfl, hb3⟩
  have HRI3 := Lib.hid (HRI.out w3 _ (HBB2.out.keep hb3))
  have HIV3 := Lib.hid (HIV.out.keep hb3)
  have HIN3 := Lib.hid (HIN2.out.keep hb3)
  have HBB3 := Lib.hid (HBB2.out.keep hb3)
  have HB3 := Lib.hid (HB2.out.trans (hb3.mono HB2.out.size))
  clear hb3 HAW HIV HIN2 HBB2
  go_wp2_with fail
  refine HRI3.out.mono ?_
  rintro e w4 ⟨rv, rfl, hown, hb4⟩
  have hat := hown.at (by rw [HVN.out]; omega) HIL.out
  obtain ⟨ra, rc, rfl, _, _⟩ := hat.form
  rw [HVN.out] at hat
  have HSM := Lib.hid (sameChgs_any w4 _ _ V (HIV3.out.keep hb4) hat)
  have HIV4 := Lib.hid (HIV3.out.keep hb4)
  have HIN4 := Lib.hid (HIN3.out.keep hb4)
  have HBB4 := Lib.hid (HBB3.out.keep hb4)
  have HB4 := Lib.hid (HB3.out.trans (hb4.mono HB3.out.size))
  rw [HVN.out]
  clear hown hat hb4 HRI3 HIV3 HIN3 HBB3
  go_wp2_with fail
  refine HSM.out.mono ?_
  rintro e w5 ⟨rfl, hb5⟩
  have HSM5 := Lib.hid (sameChgs_any w5 _ _ l (HIN4.out.keep hb5) (HBB4.out.keep hb5))
  have HIV5 := Lib.hid (HIV4.out.keep hb5)
  have HBB5 := Lib.hid (HBB4.out.keep hb5)
  have HB5 := Lib.hid (HB4.out.trans (hb5.mono HB4.out.size))
  clear hb5 HSM HIV4 HIN4 HBB4
  go_wp2_with fail
  refine HSM5.out.mono ?_
  rintro e w6 ⟨rfl, hb6⟩
  have HI6 := Lib.hid (HINW.out w6 _ (HIV5.out.keep hb6))
  have HBB6 := Lib.hid (HBB5.out.keep hb6)
  have HB6 := Lib.hid (HB5.out.trans (hb6.mono HB5.out.size))
  clear hb6 HSM5 HIV5 HBB5
  go_wp2_with fail
  refine HI6.out.mono ?_
  rintro e w7 ⟨tv, rfl, hown, hb7⟩
  have hat := hown.at (by rw [HN.out]; omega) HRL.out
  obtain ⟨ta, tc, rfl, _, _⟩ := hat.form
  rw [HN.out] at hat
  have HSM7 := Lib.hid (sameChgs_any w7 _ _ l hat (HBB6.out.keep hb7))
  have HB7 := Lib.hid (HB6.out.trans (hb7.mono HB6.out.size))
  rw [HN.out]
  clear hown hat hb7 HI6 HBB6
  go_wp2_with fail
  refine HSM7.out.mono ?_
  rintro e w8 ⟨rfl, hb8⟩
  have HB8 := Lib.hid (HB7.out.trans (hb8.mono HB7.out.size))
  clear hb8
  go_wp2_with fail
  go_ret
  exact ⟨by first | rfl | simp, HB8.out⟩
end Go.Proofs.YtgilflkgibfjgaaDoor
