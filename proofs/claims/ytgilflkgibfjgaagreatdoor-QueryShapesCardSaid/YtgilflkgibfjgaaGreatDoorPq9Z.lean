/- QueryShapes, walked. -/
import Derived.Test.YtgilflkgibfjgaaGreatDoorQr1Z
import Derived.Test.YtgilflkgibfjgaaGreatDoorRo9Z
import Derived.Test.YtgilflkgibfjgaaGreatDoorCqZ
import Derived.Test.YtgilflkgibfjgaaGreatDoorFsZ
import Derived.Test.YtgilflkgibfjgaaGreatDoorGz
import Derived.Deep.RegionHeld3
namespace Go.Proofs.YtgilflkgibfjgaaGreatDoor
open Go.RowKit
set_option linter.unusedVariables false

/-- Two queries, each in a variable of its own. -/
def SQ (nm : ByteArray) (v1 v2 u1 u2 : Value) (b1 b2 : Nat) (W0 W : World) : Prop :=
  W.cell? ⟨b1, 0, none⟩ = some (.string nm) ∧ W.cell? ⟨b1, 1, none⟩ = some v1 ∧ W.cell? ⟨b1, 2, none⟩ = some v2 ∧ W.cell? ⟨b2, 0, none⟩ = some (.string nm) ∧ W.cell? ⟨b2, 1, none⟩ = some u1 ∧ W.cell? ⟨b2, 2, none⟩ = some u2 ∧ Below W0.heap.size W0 W
theorem SQ.step {nm : ByteArray} {v1 v2 u1 u2 : Value} {b1 b2 : Nat} {W0 W W' : World} (h : SQ nm v1 v2 u1 u2 b1 b2 W0 W) (h1 : b1 < W0.heap.size) (h2 : b2 < W0.heap.size) (hb : Below W.heap.size W W') : SQ nm v1 v2 u1 u2 b1 b2 W0 W' := by
  obtain ⟨k0, k1, k2, k3, k4, k5, k6⟩ := h
  have hz := k6.size
  exact ⟨(hb.cell (p := ⟨b1, 0, none⟩) (by simp only; omega)).trans k0, (hb.cell (p := ⟨b1, 1, none⟩) (by simp only; omega)).trans k1, (hb.cell (p := ⟨b1, 2, none⟩) (by simp only; omega)).trans k2, (hb.cell (p := ⟨b2, 0, none⟩) (by simp only; omega)).trans k3, (hb.cell (p := ⟨b2, 1, none⟩) (by simp only; omega)).trans k4, (hb.cell (p := ⟨b2, 2, none⟩) (by simp only; omega)).trans k5, k6.trans (hb.mono hz)⟩

set_option maxHeartbeats 8000000 in
set_option maxRecDepth 100000 in
theorem qshapes_law (nm : ByteArray) (hv av : Value) {hd : List (List UInt8)} {al : List Atm} (w : World) (h : BigQ w nm hv av hd al) (hg : Glob w) :
    Calls Tryz.prog 5 #[.agg #[.string nm, hv, av]] w fun e w' => e = .returned (.bool true) ∧ Below w.heap.size w w' := by
  have hb0 : Below w.heap.size w (w.alloc (.cells #[.string nm, hv, av] 34)) := balloc (Below.refl _ _) _
  have hbx := Blk.new w 34 #[.string nm, hv, av]
  have hv0 := h.head.keep hb0
  have ht0 := h.atoms.keep hb0
  have hnz : nm.size ≤ 140737488355328 := by have := h.name; omega
  have hdx : ∀ s ∈ hd, s.length ≤ 140737488355328 := fun s hs => by have := h.heads s hs; omega
  have hlens := h.lens
  have hrange := h.range
  have HCP := Lib.hid (copyQ_any _ nm hv av hd al hv0 ht0 h.len)
  have HBX := Lib.hid hbx
  have HB0 := Lib.hid hb0
  have HV := Lib.hid hv0
  have HT := Lib.hid ht0
  have HG := Lib.hid hg
  have HDX := Lib.hid hdx
  have HLN := Lib.hid hlens
  have HRG := Lib.hid hrange
  obtain ⟨va, vc, rfl, _, _⟩ := h.head.form
  obtain ⟨aa, ac, rfl, _, _⟩ := h.atoms.form
  clear h hb0 hbx hg hv0 ht0 hdx hlens hrange
  go_enter Tryz.func5, Tryz.ntmps5
  go_wp2_with fail
  refine HCP.out.mono ?_
  rintro e w1 ⟨u1, u2, rfl, hu1, hu2, hb1⟩
  obtain ⟨ua, uc, rfl, _, _⟩ := hu1.form
  obtain ⟨xa, xc, rfl, _, _⟩ := hu2.form
  have bk : Below w1.heap.size w1 (w1.alloc (.cells #[.string nm, .slice ua hd.length uc, .slice xa al.length xc] 34)) := balloc (Below.refl _ _) _
  obtain ⟨W0, hW0⟩ : ∃ W0, w1.alloc (.cells #[.string nm, .slice ua hd.length uc, .slice xa al.length xc] 34) = W0 := ⟨_, rfl⟩
  have y := Blk.new w1 34 #[.string nm, .slice ua hd.length uc, .slice xa al.length xc]
  have x := (HBX.out.below hb1 (by simp)).alloc (.cells #[.string nm, .slice ua hd.length uc, .slice xa al.length xc] 34)
  have hB1 : Below w.heap.size w W0 := by
    rw [← hW0]
    exact balloc (HB0.out.trans (hb1.mono (by simp))) _
  rw [hW0] at y x bk
  have hv0 : StrsAt W0 (.slice va hd.length vc) hd := (HV.out.keep hb1).keep bk
  have ht0 : AtomsAt W0 (.slice aa al.length ac) al := (HT.out.keep hb1).keep bk
  have hu0 : StrsAt W0 (.slice ua hd.length uc) hd := hu1.keep bk
  have hz0 : AtomsAt W0 (.slice xa al.length xc) al := hu2.keep bk
  have hx0 := x.cell 0
  have hx1 := x.cell 1
  have hx2 := x.cell 2
  have hy0 := y.cell 0
  have hy1 := y.cell 1
  have hy2 := y.cell 2
  have hxl := x.lt
  have hyl := y.lt
  simp only [List.getElem?_toArray, List.getElem?_cons_zero, List.getElem?_cons_succ] at hx0 hx1 hx2 hy0 hy1 hy2
  have hbW := Below.refl W0.heap.size W0
  have HAW : Hid (∀ W, SQ nm (.slice va hd.length vc) (.slice aa al.length ac) (.slice ua hd.length uc) (.slice xa al.length xc) w.heap.size w1.heap.size W0 W → Calls Tryz.prog 17 #[] W fun e w' => e = .returned (.bool true) ∧ SQ nm (.slice va hd.length vc) (.slice aa al.length ac) (.slice ua hd.length uc) (.slice xa al.length xc) w.heap.size w1.heap.size W0 w') :=
    Lib.hid fun W h => (awake09 W ((HG.out.below hB1).below h.2.2.2.2.2.2)).mono fun e w' hh => ⟨hh.1, h.step hxl hyl hh.2⟩
  have HCK : Hid (∀ W, SQ nm (.slice va hd.length vc) (.slice aa al.length ac) (.slice ua hd.length uc) (.slice xa al.length xc) w.heap.size w1.heap.size W0 W → Calls Tryz.prog 18 #[.agg #[.string nm, .slice ua hd.length uc, .slice xa al.length xc]] W fun e w' => e = .returned (.int .i64 (chkQ ⟨nm.data.toList, hd, al⟩)) ∧ SQ nm (.slice va hd.length vc) (.slice aa al.length ac) (.slice ua hd.length uc) (.slice xa al.length xc) w.heap.size w1.heap.size W0 w') :=
    Lib.hid fun W h => (shape_any W nm _ _ hd al (hu0.keep h.2.2.2.2.2.2) (hz0.keep h.2.2.2.2.2.2) hnz HDX.out HLN.out).mono fun e w' hh => ⟨hh.1, h.step hxl hyl hh.2⟩
  have HRC : Hid (∀ W, SQ nm (.slice va hd.length vc) (.slice aa al.length ac) (.slice ua hd.length uc) (.slice xa al.length xc) w.heap.size w1.heap.size W0 W → Calls Tryz.prog 19 #[.agg #[.string nm, .slice va hd.length vc, .slice aa al.length ac]] W fun e w' => e = .returned (.int .i64 (chkQ ⟨nm.data.toList, hd, al⟩)) ∧ SQ nm (.slice va hd.length vc) (.slice aa al.length ac) (.slice ua hd.length uc) (.slice xa al.length xc) w.heap.size w1.heap.size W0 w') :=
    Lib.hid fun W h => (refShape_any W nm _ _ hd al (hv0.keep h.2.2.2.2.2.2) (ht0.keep h.2.2.2.2.2.2) hnz HDX.out HLN.out).mono fun e w' hh => ⟨hh.1, h.step hxl hyl hh.2⟩
  have HSH : Hid (∀ W, SQ nm (.slice va hd.length vc) (.slice aa al.length ac) (.slice ua hd.length uc) (.slice xa al.length xc) w.heap.size w1.heap.size W0 W → Calls Tryz.prog 20 #[.agg #[.string nm, .slice ua hd.length uc, .slice xa al.length xc]] W fun e w' => e = .returned (.string ⟨(showQ ⟨nm.data.toList, hd, al⟩).toArray⟩) ∧ SQ nm (.slice va hd.length vc) (.slice aa al.length ac) (.slice ua hd.length uc) (.slice xa al.length xc) w.heap.size w1.heap.size W0 w') :=
    Lib.hid fun W h => (qshow_any W nm _ _ hd al (hu0.keep h.2.2.2.2.2.2) (hz0.keep h.2.2.2.2.2.2) hnz HDX.out HLN.out HRG.out ((HG.out.below hB1).below h.2.2.2.2.2.2)).mono fun e w' hh => ⟨hh.1, h.step hxl hyl hh.2⟩
  have HRS : Hid (∀ W, SQ nm (.slice va hd.length vc) (.slice aa al.length ac) (.slice ua hd.length uc) (.slice xa al.length xc) w.heap.size w1.heap.size W0 W → Calls Tryz.prog 21 #[.agg #[.string nm, .slice va hd.length vc, .slice aa al.length ac]] W fun e w' => e = .returned (.string ⟨(showQ ⟨nm.data.toList, hd, al⟩).toArray⟩) ∧ SQ nm (.slice va hd.length vc) (.slice aa al.length ac) (.slice ua hd.length uc) (.slice xa al.length xc) w.heap.size w1.heap.size W0 w') :=
    Lib.hid fun W h => (refQShow_any W nm _ _ hd al (hv0.keep h.2.2.2.2.2.2) (ht0.keep h.2.2.2.2.2.2) hnz HDX.out HLN.out HRG.out).mono fun e w' hh => ⟨hh.1, h.step hxl hyl hh.2⟩
  have HSM : Hid (∀ W, SQ nm (.slice va hd.length vc) (.slice aa al.length ac) (.slice ua hd.length uc) (.slice xa al.length xc) w.heap.size w1.heap.size W0 W → Calls Tryz.prog 22 #[.agg #[.string nm, .slice ua hd.length uc, .slice xa al.length xc], .agg #[.string nm, .slice va hd.length vc, .slice aa al.length ac]] W fun e w' => e = .returned (.bool true) ∧ SQ nm (.slice va hd.length vc) (.slice aa al.length ac) (.slice ua hd.length uc) (.slice xa al.length xc) w.heap.size w1.heap.size W0 w') :=
    Lib.hid fun W h => (same_any W nm _ _ _ _ hd al (hu0.keep h.2.2.2.2.2.2) (hv0.keep h.2.2.2.2.2.2) (hz0.keep h.2.2.2.2.2.2) (ht0.keep h.2.2.2.2.2.2)).mono fun e w' hh => ⟨hh.1, h.step hxl hyl hh.2⟩
  have HB1 := Lib.hid hB1
  have HW0 := Lib.hid hW0
  unfold SQ at HAW HCK HRC HSH HRS HSM
  clear hb1 hu1 hu2 bk x y hB1 hv0 ht0 hu0 hz0 hW0 HCP HBX HB0 HV HT HG HDX HLN HRG hnz
  generalize chkQ ⟨nm.data.toList, hd, al⟩ = cc at *
  generalize showQ ⟨nm.data.toList, hd, al⟩ = ss at *
  generalize hd.length = hn at *
  generalize al.length = n at *
  go_wp2_with fail
  rw [HW0.out]
  go_region_held3 (fun w' => w'.cell? ⟨w.heap.size, 0, none⟩ = some (.string nm) ∧ w'.cell? ⟨w.heap.size, 1, none⟩ = some (.slice va hn vc) ∧ w'.cell? ⟨w.heap.size, 2, none⟩ = some (.slice aa n ac) ∧ w'.cell? ⟨w1.heap.size, 0, none⟩ = some (.string nm) ∧ w'.cell? ⟨w1.heap.size, 1, none⟩ = some (.slice ua hn uc) ∧ w'.cell? ⟨w1.heap.size, 2, none⟩ = some (.slice xa n xc) ∧ Below W0.heap.size W0 w')
    (first | exact hK | (go_split_ands; refine ⟨?_, ?_, ?_, ?_, ?_, ?_, ?_⟩ <;> first | exact bdrew (by assumption) | assumption | go_keep))
    (first
      | (go_at_call 17; go_split_ands; refine (HAW.out _ ⟨by assumption, by assumption, by assumption, by assumption, by assumption, by assumption, by assumption⟩).mono ?_; rintro e w' ⟨rfl, hK⟩)
      | (go_at_call 18; go_split_ands; refine (HCK.out _ ⟨by assumption, by assumption, by assumption, by assumption, by assumption, by assumption, by assumption⟩).mono ?_; rintro e w' ⟨rfl, hK⟩)
      | (go_at_call 19; go_split_ands; refine (HRC.out _ ⟨by assumption, by assumption, by assumption, by assumption, by assumption, by assumption, by assumption⟩).mono ?_; rintro e w' ⟨rfl, hK⟩)
      | (go_at_call 20; go_split_ands; refine (HSH.out _ ⟨by assumption, by assumption, by assumption, by assumption, by assumption, by assumption, by assumption⟩).mono ?_; rintro e w' ⟨rfl, hK⟩)
      | (go_at_call 21; go_split_ands; refine (HRS.out _ ⟨by assumption, by assumption, by assumption, by assumption, by assumption, by assumption, by assumption⟩).mono ?_; rintro e w' ⟨rfl, hK⟩)
      | (go_at_call 22; go_split_ands; refine (HSM.out _ ⟨by assumption, by assumption, by assumption, by assumption, by assumption, by assumption, by assumption⟩).mono ?_; rintro e w' ⟨rfl, hK⟩))
  all_goals go_split_ands
  all_goals go_wp2_with fail
  all_goals (go_ret; exact ⟨by simp, HB1.out.trans (Below.mono (by assumption) HB1.out.size)⟩)
end Go.Proofs.YtgilflkgibfjgaaGreatDoor
