/- ChangeChecks, walked. -/
import Derived.Test.YtgilflkgibfjgaaDoorBd
import Derived.Test.YtgilflkgibfjgaaDoorBe
import Derived.Test.YtgilflkgibfjgaaDoorCraZ
import Derived.Test.YtgilflkgibfjgaaDoorCi
import Derived.Test.YtgilflkgibfjgaaDoorCk
namespace Go.Proofs.YtgilflkgibfjgaaDoor
open Go.RowKit
set_option linter.unusedVariables false

set_option maxHeartbeats 4000000 in
set_option maxRecDepth 100000 in
theorem cchecks_card (v u : Value) (w : World) {l : List Chg} {d : List Rln} (h : ChgsAt w v l) (hr : RangeB l) (hz : ∀ c ∈ l, c.rel.length ≤ 140737488351232) (hn : l.length ≤ 2932031007402)
    (hd : RelsAt w u d) (hdz : ∀ c ∈ d, c.name.length ≤ 140737488351232 ∧ ∀ x ∈ c.cols, x.x.length ≤ 140737488351232) (hdn : d.length ≤ 3518437208780) (hg : Glob w) :
    Calls Tryd.prog 10 #[v, u] w fun e w' => e = .returned (.bool true) ∧ Below w.heap.size w w' := by
  have hcp := copyB_any w v l h hn
  have hrl := h.rows
  have hdl : ∀ c ∈ d, c.cols.length ≤ 5864062014634 := fun c hc => by
    obtain ⟨i, hi⟩ := List.getElem?_of_mem hc
    obtain ⟨_, _, _, _, _, _, _, _, _, _, _, h9⟩ := hd.get hi
    exact h9
  obtain ⟨ba, bc, rfl, _, _⟩ := h.form
  obtain ⟨da, dc, rfl, _, _⟩ := hd.form
  have HB := Lib.hid h
  have HD := Lib.hid hd
  have HCP := Lib.hid hcp
  have HG := Lib.hid hg
  have HRL := Lib.hid hrl
  have HDL := Lib.hid hdl
  clear h hcp hg hr hz hrl hd hdz hdl
  obtain ⟨A1, A2, hA⟩ : ∃ A1 A2, chkBt l d = (A1, A2) := ⟨_, _, rfl⟩
  have HA := Lib.hid hA
  clear hA
  generalize hN : l.length = n at *
  have HN := Lib.hid hN
  clear hN
  generalize hM : d.length = m at *
  have HM := Lib.hid hM
  clear hM
  go_enter Tryd.func10, Tryd.ntmps10
  go_wp2_with fail
  refine HCP.out.mono ?_
  rintro e w1 ⟨cv, rfl, hown, hb1⟩
  have hat := hown.at (by rw [HN.out]; omega) HRL.out
  obtain ⟨ca, cc, rfl, _, _⟩ := hat.form
  rw [HN.out] at hat
  have HAT := Lib.hid hat
  have HB1 := Lib.hid hb1
  have HBB := Lib.hid (HB.out.keep hb1)
  have HDD := Lib.hid (HD.out.keep hb1)
  have HCR := Lib.hid (copyRels_any w1 _ d (HD.out.keep hb1) (by rw [HM.out]; exact hdn))
  rw [HN.out]
  clear hown hat hb1
  go_wp2_with fail
  refine HCR.out.mono ?_
  rintro e w2 ⟨dv, rfl, hown, hb2⟩
  have hat : RelsAt w2 dv d := RelsOwn.at hown (by rw [HM.out]; omega) HDL.out
  obtain ⟨ea, ec, rfl, _, _⟩ := hat.form
  rw [HM.out] at hat
  have hbb := HB1.out.trans (hb2.mono HB1.out.size)
  have HCK := Lib.hid (ccheck_any w2 _ _ l d (HAT.out.keep hb2) hat)
  have HB2 := Lib.hid hbb
  have HV2 := Lib.hid (HBB.out.keep hb2)
  have HE2 := Lib.hid (HDD.out.keep hb2)
  rw [HM.out]
  clear hown hat hb2 hbb HAT HBB HDD HCR HCP
  rw [HA.out] at HCK
  go_wp2_with fail
  refine HCK.out.mono ?_
  rintro e w3 ⟨rfl, hb3⟩
  have HRC := Lib.hid (refChkB_any w3 _ _ l d (HV2.out.keep hb3) (HE2.out.keep hb3))
  rw [HA.out] at HRC
  have HB3 := Lib.hid (HB2.out.trans (hb3.mono HB2.out.size))
  clear hb3 HCK HV2 HE2
  go_wp2_with fail
  refine HRC.out.mono ?_
  rintro e w4 ⟨rfl, hb4⟩
  have hbb := HB3.out.trans (hb4.mono HB3.out.size)
  have HAW := Lib.hid (awake10 _ (HG.out.below hbb))
  have HB4 := Lib.hid hbb
  have k1 : (A1 == A1) = true := by simp
  have k2 : (A2 == A2) = true := by simp
  clear hb4 hbb HRC
  go_wp2_with fail
  refine HAW.out.mono ?_
  rintro e w5 ⟨rfl, hb5⟩
  have HB5 := Lib.hid (HB4.out.trans (hb5.mono HB4.out.size))
  clear hb5
  go_wp2_with fail
  go_ret
  exact ⟨by first | rfl | simp, HB5.out⟩
end Go.Proofs.YtgilflkgibfjgaaDoor
