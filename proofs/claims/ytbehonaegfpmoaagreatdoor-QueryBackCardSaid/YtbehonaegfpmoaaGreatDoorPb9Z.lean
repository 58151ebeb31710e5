/- QueryBack, walked. -/
import Derived.Test.YtbehonaegfpmoaaGreatDoorPo9Z
import Derived.Test.YtbehonaegfpmoaaGreatDoorRo9Z
import Derived.Test.YtbehonaegfpmoaaGreatDoorCqZ
namespace Go.Proofs.YtbehonaegfpmoaaGreatDoor
open Go.RowKit
set_option linter.unusedVariables false

set_option maxHeartbeats 8000000 in
set_option maxRecDepth 100000 in
theorem qback_law (w : World) (nm : ByteArray) (hv av : Value) (hd : List (List UInt8)) (al : List Atm) (h : BigQ w nm hv av hd al) (hg : Glob w) :
    Calls Tryz.prog 5 #[.agg #[.string nm, hv, av]] w fun e w' => e = .returned (.bool true) ∧ Below w.heap.size w w' := by
  have hb0 : Below w.heap.size w (w.alloc (.cells #[.string nm, hv, av] 25)) := balloc (Below.refl _ _) _
  have hbx := Blk.new w 25 #[.string nm, hv, av]
  have hv0 := h.head.keep hb0
  have ht0 := h.atoms.keep hb0
  have hnz : nm.size ≤ 140737488355328 := by have := h.name; omega
  have hdx : ∀ s ∈ hd, s.length ≤ 140737488355328 := fun s hs => by have := h.heads s hs; omega
  have HCP := Lib.hid (fun W (h1 : StrsAt W hv hd) (h2 : AtomsAt W av al) => copyQ_any W nm hv av hd al h1 h2 h.len)
  have HSH := Lib.hid (fun W u v (h1 : StrsAt W u hd) (h2 : AtomsAt W v al) (hG : Glob W) => qshow_any W nm u v hd al h1 h2 hnz hdx h.lens h.range hG)
  have HCK := Lib.hid (fun W u v (h1 : StrsAt W u hd) (h2 : AtomsAt W v al) => shape_any W nm u v hd al h1 h2 hnz hdx h.lens)
  have HAW := Lib.hid (fun W (hW : Glob W) => awake09 W hW)
  have HBX := Lib.hid hbx
  have HB0 := Lib.hid hb0
  have HV0 := Lib.hid hv0
  have HT0 := Lib.hid ht0
  have HG := Lib.hid hg
  have hrg := h.range
  have hbk := fun (hk : chkQ ⟨nm.data.toList, hd, al⟩ = 0) => (show (lexR (showQ ⟨nm.data.toList, hd, al⟩)).e = 0 ∧ queryT (lexR (showQ ⟨nm.data.toList, hd, al⟩)).ts = .ok ⟨nm.data.toList, hd, al⟩ [] by
    unfold showQ
    rw [if_pos hk]
    exact qT_back (chkQ_right hk) hrg)
  have hsl := fun (hk : chkQ ⟨nm.data.toList, hd, al⟩ = 0) => (show 1 ≤ (showQ ⟨nm.data.toList, hd, al⟩).length ∧ (showQ ⟨nm.data.toList, hd, al⟩).length ≤ 16384 ∧ hd.length ≤ 30 ∧ al.length ≤ 6 by
    have h1 := chkQ_right hk
    have h2 := qT_len h1 hrg
    unfold showQ
    rw [if_pos hk]
    exact ⟨h2.1, h2.2.1, h1.heads, h1.few⟩)
  have hth := fun (hk : chkQ ⟨nm.data.toList, hd, al⟩ = 0) => (show ∀ a ∈ al, a.ts.length ≤ 5 from (chkQ_right hk).thin)
  have hno : chkQ ⟨nm.data.toList, hd, al⟩ ≠ 0 → showQ ⟨nm.data.toList, hd, al⟩ = [] := fun hk => by
    unfold showQ
    rw [if_neg hk]
  obtain ⟨va, vc, rfl, _, _⟩ := h.head.form
  obtain ⟨aa, ac, rfl, _, _⟩ := h.atoms.form
  have HBK := Lib.hid hbk
  have HSL := Lib.hid hsl
  have HTH := Lib.hid hth
  have HNO := Lib.hid hno
  have HCP0 := Lib.hid (HCP.out _ HV0.out HT0.out)
  clear h hb0 hbx hv0 ht0 hg hbk hsl hth hno hnz hdx hrg
  generalize chkQ ⟨nm.data.toList, hd, al⟩ = cc at *
  generalize showQ ⟨nm.data.toList, hd, al⟩ = ss at *
  go_enter Tryz.func5, Tryz.ntmps5
  go_wp2_with fail
  refine HCP0.out.mono ?_
  rintro e w1 ⟨u1, v1, rfl, hu1, hv1, hb1⟩
  have hbb := HB0.out.trans (hb1.mono (by simp))
  have HB1 := Lib.hid hbb
  have HX1 := Lib.hid (HBX.out.below hb1 (by simp))
  have HS1 := Lib.hid (HSH.out _ _ _ hu1 hv1 (HG.out.below hbb))
  have HV1 := Lib.hid (HV0.out.keep hb1)
  have HT1 := Lib.hid (HT0.out.keep hb1)
  clear hu1 hv1 hb1 hbb
  go_wp2_with fail
  refine HS1.out.mono ?_
  rintro e w2 ⟨rfl, hb2⟩
  have HB2 := Lib.hid (HB1.out.trans (hb2.mono HB1.out.size))
  have hx2 := HX1.out.below hb2 HX1.out.lt
  have x0 := hx2.cell 0
  have x1 := hx2.cell 1
  have x2 := hx2.cell 2
  have xl := hx2.lt
  simp only [List.getElem?_toArray, List.getElem?_cons_zero, List.getElem?_cons_succ] at x0 x1 x2
  have HX2 := Lib.hid hx2
  have HV2 := Lib.hid (HV1.out.keep hb2)
  have HT2 := Lib.hid (HT1.out.keep hb2)
  have HCP2 := Lib.hid (HCP.out _ HV2.out HT2.out)
  clear hb2 hx2
  go_wp2_with fail
  refine HCP2.out.mono ?_
  rintro e w3 ⟨u3, v3, rfl, hu3, hv3, hb3⟩
  have HB3 := Lib.hid (HB2.out.trans (hb3.mono HB2.out.size))
  have HX3 := Lib.hid (HX2.out.below hb3 HX2.out.lt)
  have HC3 := Lib.hid (HCK.out _ _ _ hu3 hv3)
  have HV3 := Lib.hid (HV2.out.keep hb3)
  have HT3 := Lib.hid (HT2.out.keep hb3)
  clear hu3 hv3 hb3
  go_wp2_with fail
  refine HC3.out.mono ?_
  rintro e w4 ⟨rfl, hb4⟩
  have HB4 := Lib.hid (HB3.out.trans (hb4.mono HB3.out.size))
  have HX4 := Lib.hid (HX3.out.below hb4 HX3.out.lt)
  have HV4 := Lib.hid (HV3.out.keep hb4)
  have HT4 := Lib.hid (HT3.out.keep hb4)
  have HG4 := Lib.hid (HG.out.below HB4.out)
  clear hb4
  by_cases hk : cc = 0
  · have q0 : (cc != 0) = false := by simp [hk]
    obtain ⟨he, hq⟩ := HBK.out hk
    obtain ⟨l1, l2, l3, l4⟩ := HSL.out hk
    have HTH0 := Lib.hid (HTH.out hk)
    have hss : (⟨ss.toArray⟩ : ByteArray).data.toList = ss := by simp
    have hsz : (⟨ss.toArray⟩ : ByteArray).size = ss.length := by simp [ByteArray.size]
    have hp := parse_line ⟨ss.toArray⟩ w4 (by omega) HG4.out (by rw [hss]; exact he)
    rw [hss, hq] at hp
    have HP := Lib.hid hp
    have hne : ss ≠ [] := fun e => by rw [e] at l1; simp at l1
    have hne2 : ss.isEmpty = false := by
      cases ss with
      | nil => exact absurd rfl hne
      | cons a l => rfl
    clear he hq hp hss hsz hk
    go_wp2_with fail
    refine HP.out.mono ?_
    rintro e w5 ⟨hv5, av5, rfl, ho5, ha5, hb5⟩
    have hs5 : StrsAt w5 hv5 hd := ho5.strs (by simp only; omega)
    have ht5 : AtomsAt w5 av5 al := ats_of_own ha5 l4 HTH0.out
    obtain ⟨h5a, h5c, rfl, _, _⟩ := hs5.form
    obtain ⟨a5a, a5c, rfl, _, _⟩ := ht5.form
    have bk : Below w5.heap.size w5 (w5.alloc (.cells #[.string nm, .slice h5a hd.length h5c, .slice a5a al.length a5c] 25)) := balloc (Below.refl _ _) _
    have hb45 : Below w4.heap.size w4 (w5.alloc (.cells #[.string nm, .slice h5a hd.length h5c, .slice a5a al.length a5c] 25)) := balloc hb5 _
    have HB6 := Lib.hid (HB4.out.trans (hb45.mono HB4.out.size))
    have HAW6 := Lib.hid (HAW.out _ (HG4.out.below hb45))
    have HY6 := Lib.hid (Blk.new w5 25 #[.string nm, .slice h5a hd.length h5c, .slice a5a al.length a5c])
    have HX6 := Lib.hid (HX4.out.below hb45 HX4.out.lt)
    have HV6 := Lib.hid (HV4.out.keep hb45)
    have HT6 := Lib.hid (HT4.out.keep hb45)
    have HU6 := Lib.hid (hs5.keep bk)
    have HZ6 := Lib.hid (ht5.keep bk)
    clear ho5 ha5 hs5 ht5 bk hb45 hb5
    go_wp2_with fail
    refine HAW6.out.mono ?_
    rintro e w7 ⟨rfl, hb7⟩
    have hx7 := HX6.out.below hb7 HX6.out.lt
    have hy7 := HY6.out.below hb7 HY6.out.lt
    have x0 := hx7.cell 0
    have x1 := hx7.cell 1
    have x2 := hx7.cell 2
    have xl := hx7.lt
    have y0 := hy7.cell 0
    have y1 := hy7.cell 1
    have y2 := hy7.cell 2
    have yl := hy7.lt
    simp only [List.getElem?_toArray, List.getElem?_cons_zero, List.getElem?_cons_succ] at x0 x1 x2 y0 y1 y2
    have HSM := Lib.hid (same_any w7 nm _ _ _ _ hd al (HU6.out.keep hb7) (HV6.out.keep hb7) (HZ6.out.keep hb7) (HT6.out.keep hb7))
    have HB7 := Lib.hid (HB6.out.trans (hb7.mono HB6.out.size))
    clear hb7 hx7 hy7
    go_wp2_with fail
    refine HSM.out.mono ?_
    rintro e w8 ⟨rfl, hb8⟩
    have HB8 := Lib.hid (HB7.out.trans (hb8.mono HB7.out.size))
    clear hb8
    go_wp2_with fail
    go_ret
    exact ⟨by first | rfl | simp, HB8.out⟩
  · have q0 : (cc != 0) = true := by simpa using hk
    have hs := HNO.out hk
    subst hs
    have HAW4 := Lib.hid (HAW.out _ HG4.out)
    clear hk
    go_wp2_with fail
    refine HAW4.out.mono ?_
    rintro e w5 ⟨rfl, hb5⟩
    have HB5 := Lib.hid (HB4.out.trans (hb5.mono HB4.out.size))
    clear hb5
    go_wp2_with fail
    go_ret
    exact ⟨by first | rfl | simp, HB5.out⟩
theorem qback_card (nm : ByteArray) (hv av : Value) (w : World) {hd : List (List UInt8)} {al : List Atm} (h : BigQ w nm hv av hd al) (hg : Glob w) :
    Calls Tryz.prog 5 #[.agg #[.string nm, hv, av]] w fun e w' => e = .returned (.bool true) ∧ Below w.heap.size w w' := qback_law w nm hv av hd al h hg
end Go.Proofs.YtbehonaegfpmoaaGreatDoor
