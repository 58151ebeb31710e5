/- SchemaBack, walked. -/
import Derived.Test.YtbehonaegfpmoaaDoorPc8Z
namespace Go.Proofs.YtbehonaegfpmoaaDoor
open Go.RowKit
set_option linter.unusedVariables false

set_option maxHeartbeats 4000000 in
set_option maxRecDepth 100000 in
theorem sback_law (w : World) (nm : ByteArray) (v : Value) (cs : List Col) (h : ColsAt w v cs) (hl : cs.length ≤ 5864062014634) (hn : nm.size ≤ 140737488355328) (hc : ∀ c ∈ cs, c.x.length ≤ 140737488355328) (hg : Glob w) :
    Calls Tryd.prog 9 #[.agg #[.string nm, v]] w fun e w' => e = .returned (.bool true) ∧ Below w.heap.size w w' := by
  have hb0 : Below w.heap.size w (w.alloc (.cells #[.string nm, v] 58)) := balloc (Below.refl _ _) _
  have hbx := Blk.new w 58 #[.string nm, v]
  have hv0 := h.keep hb0
  have HCP := Lib.hid (fun W (hW : ColsAt W v cs) => copyRel_any W nm v cs hW hl)
  have hat : ∀ (B : Nat) (W : World) (u : Value), W.ownsRow B 78 2 u cs.length (cs.map Col.cells).flatten → ColsAt W u cs := fun B W u ho => ColsOwn.at (B := 0) (by
    show World.ownsRow _ _ _ _ _ _ _
    rw [← cols_flat]
    exact World.ownsRow.low ho (Nat.zero_le _)) (by omega)
  have HAT := Lib.hid hat
  have HSH := Lib.hid (fun W u (hW : ColsAt W u cs) => show_any8 W nm u cs hW hn hc)
  have HCK := Lib.hid (fun W u (hW : ColsAt W u cs) => check_any W nm u cs hW hn hc)
  have HAW := Lib.hid (fun W (hW : Glob W) => awake08 W hW)
  have HBX := Lib.hid hbx
  have HB0 := Lib.hid hb0
  have HV0 := Lib.hid hv0
  have HG := Lib.hid hg
  have hbk := fun (hk : chkC nm.data.toList cs = 0) => show_back hk
  have hsl := fun (hk : chkC nm.data.toList cs = 0) => show_len hk
  have hno : chkC nm.data.toList cs ≠ 0 → showC nm.data.toList cs = [] := fun hk => by
    unfold showC
    rw [if_neg hk]
  obtain ⟨va, vc, rfl, _, _⟩ := h.form
  have HBK := Lib.hid hbk
  have HSL := Lib.hid hsl
  have HNO := Lib.hid hno
  have hx0 := hbx.cell 0
  have hx1 := hbx.cell 1
  have hxl := hbx.lt
  simp only [List.getElem?_toArray, List.getElem?_cons_zero, List.getElem?_cons_succ] at hx0 hx1
  have HCP0 := Lib.hid (HCP.out _ HV0.out)
  clear h hb0 hbx hv0 hat hg hbk hsl hno hc hn
  generalize chkC nm.data.toList cs = cc at *
  generalize showC nm.data.toList cs = ss at *
  go_enter Tryd.func9, Tryd.ntmps9
  go_wp2_with fail
  refine HCP0.out.mono ?_
  rintro e w1 ⟨u, rfl, hown, hb1⟩
  have hu := HAT.out _ _ _ hown
  have HB1 := Lib.hid (HB0.out.trans (hb1.mono (by simp)))
  have HX1 := Lib.hid (HBX.out.below hb1 (by simp))
  have HS1 := Lib.hid (HSH.out _ _ hu)
  have HV1 := Lib.hid (HV0.out.keep hb1)
  clear hown hu hb1
  go_wp2_with fail
  refine HS1.out.mono ?_
  rintro e w2 ⟨rfl, hb2⟩
  have HB2 := Lib.hid (HB1.out.trans (hb2.mono HB1.out.size))
  have hx2 := HX1.out.below hb2 HX1.out.lt
  have x0 := hx2.cell 0
  have x1 := hx2.cell 1
  have xl := hx2.lt
  simp only [List.getElem?_toArray, List.getElem?_cons_zero, List.getElem?_cons_succ] at x0 x1
  have HX2 := Lib.hid hx2
  have hv2 := HV1.out.keep hb2
  have HV2 := Lib.hid hv2
  have HCP2 := Lib.hid (HCP.out _ hv2)
  clear hb2 hx2 hv2
  go_wp2_with fail
  refine HCP2.out.mono ?_
  rintro e w3 ⟨u3, rfl, hown3, hb3⟩
  have hu3 := HAT.out _ _ _ hown3
  have HB3 := Lib.hid (HB2.out.trans (hb3.mono HB2.out.size))
  have HX3 := Lib.hid (HX2.out.below hb3 HX2.out.lt)
  have HC3 := Lib.hid (HCK.out _ _ hu3)
  have HV3 := Lib.hid (HV2.out.keep hb3)
  clear hown3 hu3 hb3
  go_wp2_with fail
  refine HC3.out.mono ?_
  rintro e w4 ⟨rfl, hb4⟩
  have HB4 := Lib.hid (HB3.out.trans (hb4.mono HB3.out.size))
  have hx4 := HX3.out.below hb4 HX3.out.lt
  have x0 := hx4.cell 0
  have x1 := hx4.cell 1
  have xl := hx4.lt
  simp only [List.getElem?_toArray, List.getElem?_cons_zero, List.getElem?_cons_succ] at x0 x1
  have HX4 := Lib.hid hx4
  have HV4 := Lib.hid (HV3.out.keep hb4)
  have HG4 := Lib.hid (HG.out.below HB4.out)
  clear hb4 hx4
  by_cases hk : cc = 0
  · have q0 : (cc != 0) = false := by simp [hk]
    obtain ⟨he, hq⟩ := HBK.out hk
    obtain ⟨l1, l2⟩ := HSL.out hk
    have hss : (⟨ss.toArray⟩ : ByteArray).data.toList = ss := by simp
    have hsz : (⟨ss.toArray⟩ : ByteArray).size = ss.length := by simp [ByteArray.size]
    have hp := sch_line ⟨ss.toArray⟩ w4 (by omega) HG4.out (by rw [hss]; exact he)
    rw [hss, hq] at hp
    have HP := Lib.hid hp
    have hne : ss ≠ [] := fun e => by rw [e] at l1; simp at l1
    have hne2 : ss.isEmpty = false := by
      cases ss with
      | nil => exact absurd rfl hne
      | cons a l => rfl
    clear he hq hp hss hsz hk
    go_wp2_with fail
    refine HP.out.mono ?_
    rintro e w5 ⟨cv, rfl, hown5, hb5⟩
    have hq5 : ColsAt w5 cv cs := ColsOwn.at hown5 (by omega)
    obtain ⟨ca, cap5, rfl, _, _⟩ := hq5.form
    have bk : Below w5.heap.size w5 (w5.alloc (.cells #[.string nm, .slice ca cs.length cap5] 58)) := balloc (Below.refl _ _) _
    have hb45 : Below w4.heap.size w4 (w5.alloc (.cells #[.string nm, .slice ca cs.length cap5] 58)) := balloc hb5 _
    have HB6 := Lib.hid (HB4.out.trans (hb45.mono HB4.out.size))
    have HAW6 := Lib.hid (HAW.out _ (HG4.out.below hb45))
    have HY6 := Lib.hid (Blk.new w5 58 #[.string nm, .slice ca cs.length cap5])
    have HX6 := Lib.hid (HX4.out.below hb45 HX4.out.lt)
    have HV6 := Lib.hid (HV4.out.keep hb45)
    have HQ6 := Lib.hid (hq5.keep bk)
    clear hown5 hq5 bk hb45 hb5
    go_wp2_with fail
    refine HAW6.out.mono ?_
    rintro e w7 ⟨rfl, hb7⟩
    have hx7 := HX6.out.below hb7 HX6.out.lt
    have hy7 := HY6.out.below hb7 HY6.out.lt
    have x0 := hx7.cell 0
    have x1 := hx7.cell 1
    have xl := hx7.lt
    have y0 := hy7.cell 0
    have y1 := hy7.cell 1
    have yl := hy7.lt
    simp only [List.getElem?_toArray, List.getElem?_cons_zero, List.getElem?_cons_succ] at x0 x1 y0 y1
    have HSM := Lib.hid (sameRel_any w7 nm _ _ cs (HQ6.out.keep hb7) (HV6.out.keep hb7))
    have HB7 := Lib.hid (HB6.out.trans (hb7.mono HB6.out.size))
    clear hb7 hx7 hy7
    go_wp2_with fail
    refine HSM.out.mono ?_
    rintro e w8 ⟨rfl, hb8⟩
    have HB8 := Lib.hid (HB7.out.trans (hb8.mono HB7.out.size))
    clear hb8
    go_wp2_with fail
    go_ret
    exact ⟨by first | rfl | simp, HB8.out⟩
  · have q0 : (cc != 0) = true := by simpa using hk
    have hs := HNO.out hk
    subst hs
    have HAW4 := Lib.hid (HAW.out _ HG4.out)
    clear hk
    go_wp2_with fail
    refine HAW4.out.mono ?_
    rintro e w5 ⟨rfl, hb5⟩
    have HB5 := Lib.hid (HB4.out.trans (hb5.mono HB4.out.size))
    clear hb5
    go_wp2_with fail
    go_ret
    exact ⟨by first | rfl | simp, HB5.out⟩
theorem sback_card (nm : ByteArray) (v : Value) (w : World) {cs : List Col} (h : ColsAt w v cs) (hl : cs.length ≤ 5864062014634) (hn : nm.size ≤ 140737488351232) (hc : ∀ c ∈ cs, c.x.length ≤ 140737488351232) (hg : Glob w) :
    Calls Tryd.prog 9 #[.agg #[.string nm, v]] w fun e w' => e = .returned (.bool true) ∧ Below w.heap.size w w' :=
  sback_law w nm v cs h hl (by omega) (fun c hm => by have := hc c hm; omega) hg
end Go.Proofs.YtbehonaegfpmoaaDoor
