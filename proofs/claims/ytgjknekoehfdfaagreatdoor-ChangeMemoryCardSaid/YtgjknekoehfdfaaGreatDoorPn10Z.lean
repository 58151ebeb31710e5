/- ChangeNets, walked. -/
import Derived.Test.YtgjknekoehfdfaaGreatDoorBd
import Derived.Test.YtgjknekoehfdfaaGreatDoorCc0Z
import Derived.Test.YtgjknekoehfdfaaGreatDoorNb
import Derived.Test.YtgjknekoehfdfaaGreatDoorNw
namespace Go.Proofs.YtgjknekoehfdfaaGreatDoor
open Go.RowKit
set_option linter.unusedVariables false

theorem net_rows {l : List Chg} (h : ∀ c ∈ l, c.row.length ≤ 4398046511104) : ∀ c ∈ netC l, c.row.length ≤ 4398046511104 := fun c hc => h c (netC_mem hc)

set_option maxHeartbeats 4000000 in
set_option maxRecDepth 100000 in
theorem cnets_card (v : Value) (w : World) {l : List Chg} (h : ChgsAt w v l) (hr : RangeB l) (hz : ∀ c ∈ l, c.rel.length ≤ 140737488351232 ∧ ∀ u ∈ c.row, u.t.length ≤ 140737488351232) (hn : l.length ≤ 2932031007402) (hg : Glob w) :
    Calls Tryz.prog 3 #[v] w fun e w' => e = .returned (.bool true) ∧ Below w.heap.size w w' := by
  have hcp := copyB_any w v l h hn
  have hrl := h.rows
  have hil := net_rows hrl
  have hin := netC_len l
  have HNET := Lib.hid (fun W u (hu : ChgsAt W u l) => cnet_any W u l hu hn (fun c hc => by have := (hz c hc).1; omega))
  have HREF := Lib.hid (fun W u (hu : ChgsAt W u l) => refNet_any W u l hu hn (fun c hc => ⟨by have := (hz c hc).1; omega, fun u hu => by have := (hz c hc).2 u hu; omega⟩))
  obtain ⟨ba, bc, rfl, _, _⟩ := h.form
  have HB := Lib.hid h
  have HCP := Lib.hid hcp
  have HG := Lib.hid hg
  have HRL := Lib.hid hrl
  have HIL := Lib.hid hil
  clear h hcp hg hr hz hrl hil
  generalize netC l = V at *
  generalize hN : l.length = n at *
  have HN := Lib.hid hN
  have HVN := Lib.hid hin
  clear hN hin
  go_enter Tryz.func3, Tryz.ntmps3
  go_wp2_with fail
  refine HCP.out.mono ?_
  rintro e w1 ⟨cv, rfl, hown, hb1⟩
  have hat := hown.at (by rw [HN.out]; omega) HRL.out
  obtain ⟨ca, cc, rfl, _, _⟩ := hat.form
  rw [HN.out] at hat
  have HAT := Lib.hid hat
  have HB1 := Lib.hid hb1
  have HBB := Lib.hid (HB.out.keep hb1)
  have HAW := Lib.hid (awake10 _ (HG.out.below hb1))
  rw [HN.out]
  clear hown hat hb1
  go_wp2_with fail
  refine HAW.out.mono ?_
  rintro e w2 ⟨rfl, hb2⟩
  have HAT2 := Lib.hid (HAT.out.keep hb2)
  have HBB2 := Lib.hid (HBB.out.keep hb2)
  have HB2 := Lib.hid (HB1.out.trans (hb2.mono HB1.out.size))
  have HN2 := Lib.hid (HNET.out w2 _ HAT2.out)
  clear hb2 HAW HAT HBB
  go_wp2_with fail
  refine HN2.out.mono ?_
  rintro e w3 ⟨nv, rfl, hown, hb3⟩
  have hat := hown.at (by have := HVN.out; omega) HIL.out
  obtain ⟨na, nc, rfl, _, _⟩ := hat.form
  have HNV := Lib.hid hat
  have HAT3 := Lib.hid (HAT2.out.keep hb3)
  have HBB3 := Lib.hid (HBB2.out.keep hb3)
  have HB3 := Lib.hid (HB2.out.trans (hb3.mono HB2.out.size))
  have HR3 := Lib.hid (HREF.out w3 _ HBB3.out)
  clear hown hat hb3 HN2 HAT2 HBB2
  go_wp2_with fail
  refine HR3.out.mono ?_
  rintro e w4 ⟨rv, rfl, hat, hb4⟩
  obtain ⟨ra, rc, rfl, _, _⟩ := hat.form
  have HSM := Lib.hid (sameChgs_any w4 _ _ V (HNV.out.keep hb4) hat)
  have HAT4 := Lib.hid (HAT3.out.keep hb4)
  have HBB4 := Lib.hid (HBB3.out.keep hb4)
  have HB4 := Lib.hid (HB3.out.trans (hb4.mono HB3.out.size))
  clear hat hb4 HR3 HAT3 HBB3 HNV
  go_wp2_with fail
  refine HSM.out.mono ?_
  rintro e w5 ⟨rfl, hb5⟩
  have HSM5 := Lib.hid (sameChgs_any w5 _ _ l (HAT4.out.keep hb5) (HBB4.out.keep hb5))
  have HB5 := Lib.hid (HB4.out.trans (hb5.mono HB4.out.size))
  clear hb5 HSM HAT4 HBB4
  go_wp2_with fail
  refine HSM5.out.mono ?_
  rintro e w6 ⟨rfl, hb6⟩
  have HB6 := Lib.hid (HB5.out.trans (hb6.mono HB5.out.size))
  clear hb6
  go_wp2_with fail
  go_ret
  exact ⟨by first | rfl | simp, HB6.out⟩
end Go.Proofs.YtgjknekoehfdfaaGreatDoor
