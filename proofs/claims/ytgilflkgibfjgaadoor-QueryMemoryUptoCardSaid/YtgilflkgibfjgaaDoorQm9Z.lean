/- QueryMemory, walked. -/
import Derived.Test.YtgilflkgibfjgaaDoorQw
import Derived.Test.YtgilflkgibfjgaaDoorPp9Z
import Derived.Test.YtgilflkgibfjgaaDoorFsZ
import Derived.Test.YtgilflkgibfjgaaDoorGz
import Derived.Test.YtgilflkgibfjgaaDoorGg
import Derived.Deep.MidRow
import Derived.Deep.RegionLaw
namespace Go.Proofs.YtgilflkgibfjgaaDoor
open Go.RowKit
set_option linter.unusedVariables false

set_option maxHeartbeats 16000000 in
set_option maxRecDepth 100000 in
theorem qmemory_card (name : ByteArray) (hv av v1 : Value) (w : World) {hd : List (List UInt8)} {al : List Atm} (h : UptoQ w name hv av hd al) {r : List Vl} (hr : RowAt w v1 3 (r.map Vl.cells)) (hrn : r.length ≤ 4398046511104) (hg : Glob w) :
    Calls Tryd.prog 5 #[.agg #[.string name, hv, av], v1] w fun e w' => e = .returned (.bool true) ∧ Below w.heap.size w w' := by
  have hb0 : Below w.heap.size w (w.alloc (.cells #[.string name, hv, av] 25)) := balloc (Below.refl _ _) _
  have hq0 := Blk.new w 25 #[.string name, hv, av]
  obtain ⟨n, hn⟩ : ∃ n, hd.length = n := ⟨_, rfl⟩
  obtain ⟨na, hna⟩ : ∃ na, al.length = na := ⟨_, rfl⟩
  have hbd : Bnd hd al n na := ⟨hn, hna, by have := h.alen; omega, by have := h.hlen; omega, h.tlen, h.heads, fun x hx t ht => ((h.each x hx).2 t ht).2, h.atoms.small⟩
  have hsl := hbd.seen name.data.toList
  obtain ⟨S, hS⟩ : ∃ S, seenQ ⟨name.data.toList, hd, al⟩ = S := ⟨_, rfl⟩
  have hpq : plainQ ⟨name.data.toList, hd, al⟩ = ⟨name.data.toList, hd.map (vNo S), al.map (pAt S)⟩ := by rw [← hS]; rfl
  rw [hS] at hsl
  have hpb := hbd.plain hsl
  have hqb : (qVars al).length ≤ 1048576 := by
    rw [← allTs_vars]
    have h1 := atomVars_len (allTs al)
    rw [allTs_len] at h1
    have h2 := h.tlen
    omega
  obtain ⟨QV, hQV⟩ : ∃ QV, qVars al = QV := ⟨_, rfl⟩
  rw [hQV] at hqb
  obtain ⟨nv, hnv⟩ : ∃ nv, QV.length = nv := ⟨_, rfl⟩
  have HCP := Lib.hid (copyF (w.alloc (.cells #[.string name, hv, av] 25)) name hv av hd al hn hna hbd.hs (h.head.keep hb0) (h.atoms.keep hb0))
  have HPLW := Lib.hid (fun W a b (h1 : StrsAt W a hd) (h2 : AtomsAt W b al) (hgW : Glob W) => plainW W name a b hbd hpq h1 h2 hgW)
  have HVW := Lib.hid (fun W a b (h2 : AtomsAt W b al) => (by
    have hv := vars_any W name a b al h2 h.alen h.tlen
    rw [hQV] at hv
    refine hv.mono ?_
    rintro e w' ⟨v, rfl, ho, hb⟩
    obtain ⟨va, vc, rfl⟩ := own_sl (show World.ownsRow _ _ _ _ _ _ _ from ho)
    rw [hnv] at ho ⊢
    exact ⟨va, vc, rfl, ho, hb⟩ : Calls Tryd.prog 22 #[.agg #[.string name, a, b]] W fun e w' => ∃ va vc, e = .returned (.slice va nv vc) ∧ OwnS W.heap.size w' (.slice va nv vc) QV ∧ Below W.heap.size W w'))
  have HQV := Lib.hid hQV
  obtain ⟨ha, hc, rfl, _, _⟩ := h.head.form
  obtain ⟨aa, ac, rfl, _, _⟩ := h.atoms.form
  obtain ⟨ra, rc, rfl, _, hrm⟩ := hr.form
  have hrl := h.head
  have hal := h.atoms
  rw [hn] at hrl
  rw [hna] at hal
  rw [hn, hna] at HCP hb0 hq0
  rw [hn, hna]
  simp only [List.length_map] at hr ⊢
  obtain ⟨m, hm⟩ : ∃ m, r.length = m := ⟨_, rfl⟩
  rw [hm] at hr ⊢
  have HM := Lib.hid hm
  have HS0 := Lib.hid hrl
  have HA0 := Lib.hid hal
  have HR0 := Lib.hid hr
  have HQ0 := Lib.hid hq0
  have HB0 := Lib.hid hb0
  have HG := Lib.hid hg
  have HBD := Lib.hid hbd
  have HPB := Lib.hid hpb
  have HPQ := Lib.hid hpq
  have HRN := Lib.hid hrn
  rw [hnv] at hqb
  have HNV := Lib.hid hnv
  clear h hq0 hb0 hg hbd hsl hpq hpb hrl hal hr hS hn hna hQV hnv hm hrn
  go_enter Tryd.func5, Tryd.ntmps5
  go_wp2_with fail
  refine HCP.out.mono ?_
  rintro e w1 ⟨ia, ic, ja, jc, rfl, hs1, ha1, hb1⟩
  have hbn : Below w1.heap.size w1 (w1.alloc (.cells #[.string name, .slice ia n ic, .slice ja na jc] 25)) := balloc (Below.refl _ _) _
  have hb1' := HB0.out.trans (hb1.mono HB0.out.size)
  have hqn := (HQ0.out.below hb1 HQ0.out.lt).alloc (.cells #[.string name, .slice ia n ic, .slice ja na jc] 25)
  have hin := Blk.new w1 25 #[.string name, .slice ia n ic, .slice ja na jc]
  obtain ⟨W1, hW1⟩ : ∃ W1, w1.alloc (.cells #[.string name, .slice ia n ic, .slice ja na jc] 25) = W1 := ⟨_, rfl⟩
  rw [hW1] at hbn hqn hin
  have hb1w := hb1'.trans (hbn.mono hb1'.size)
  have HIS1 := Lib.hid (hs1.keep hbn)
  have HIA1 := Lib.hid (ha1.keep hbn)
  have HQ1 := Lib.hid hqn
  have HI1 := Lib.hid hin
  have HB1 := Lib.hid hb1w
  have HW1 := Lib.hid hW1
  have HCR := Lib.hid (copyRow_any W1 (.slice ra m rc) r (HR0.out.keep hb1w) HRN.out)
  clear hbn hb1 hb1' hqn hin hW1 hb1w hs1 ha1 HCP
  go_upto_region 2 with fail
  rw [HW1.out]
  go_wp2_with fail
  refine HCR.out.mono ?_
  rintro e W2 ⟨v6, rfl, ho6, hb6⟩
  have t6 := (RowAt.ofOwn ho6 (by simp) (vl_len _) (by simp; have := HRN.out; omega) : RowAt W2 v6 3 (r.map Vl.cells))
  obtain ⟨ka, kc, rfl⟩ := own_sl ho6
  rw [HM.out] at t6 ⊢
  have hbw := HB1.out.trans (hb6.mono HB1.out.size)
  have HROW := Lib.hid t6
  have HIS := Lib.hid (HIS1.out.keep hb6)
  have HIA := Lib.hid (HIA1.out.keep hb6)
  have HQ2 := Lib.hid (HQ1.out.below hb6 HQ1.out.lt)
  have HI2 := Lib.hid (HI1.out.below hb6 HI1.out.lt)
  have HB2 := Lib.hid hbw
  have HUS := Lib.hid (HS0.out.keep hbw)
  have HUA := Lib.hid (HA0.out.keep hbw)
  have HUR := Lib.hid (HR0.out.keep hbw)
  have HGK := Lib.hid (fun W (hW : Below W2.heap.size W2 W) => HG.out.below (hbw.trans (hW.mono hbw.size)))
  obtain ⟨x0, x1, x2, y0, y1, y2, xl, yl⟩ := boxes2 HQ2.out HI2.out (Below.refl _ _)
  clear hbw t6 ho6 hb6 HCR HIS1 HIA1 HQ0 HQ1 HI1 HB0 HS0 HA0 HR0
  go_upto_region 3 with fail
  go_cut [7, 8] from 28 to 31 (fun s7 s8 wx => ∃ gp pa pc pb pd va vc, s7 = .pointer (some ⟨gp, 0, none⟩) ∧ s8 = .slice va nv vc ∧ Hid (PV W2.heap.size wx name gp pa n pc pb na pd va nv vc (hd.map (vNo S)) (al.map (pAt S)) QV) ∧ Hid (Below W2.heap.size W2 wx))
  case first =>
    go_region_law (first
      | (go_simp; go_at_call 16; (with_reducible refine (HPLW.out (W2.alloc (.cells #[.string ⟨#[]⟩, .slice none 0 0, .slice none 0 0] 25)).drew _ _ (HIS.out.keep (bdrew (balloc (Below.refl _ _) _))) (HIA.out.keep (bdrew (balloc (Below.refl _ _) _))) (HGK.out _ (bdrew (balloc (Below.refl _ _) _)))).mono ?_); rintro e w4 ⟨pa, pc, pb, pd, rfl, ho4, hm4, hb4⟩; have B4 : Below W2.heap.size W2 w4 := bt2 (bdrew (balloc (Below.refl _ _) _)) hb4; obtain ⟨x04, x14, x24, y04, y14, y24, xl4, yl4⟩ := boxes2 HQ2.out HI2.out B4; have HZ4 := Lib.hid ((Blk.new W2 25 #[.string ⟨#[]⟩, .slice none 0 0, .slice none 0 0]).drew.below hb4 (by simp)); have HO4 := Lib.hid ho4; have HM4 := Lib.hid hm4; have HB4 := Lib.hid B4; clear B4 hb4 ho4 hm4)
      | (go_simp; go_at_call 16; (with_reducible refine (HPLW.out W2.drew _ _ (HIS.out.keep (bdrew (Below.refl _ _))) (HIA.out.keep (bdrew (Below.refl _ _))) (HGK.out _ (bdrew (Below.refl _ _)))).mono ?_); rintro e w4 ⟨pa, pc, pb, pd, rfl, ho4, hm4, hb4⟩; have B4 : Below W2.heap.size W2 w4 := bt2 (bdrew (Below.refl _ _)) hb4; obtain ⟨x04, x14, x24, y04, y14, y24, xl4, yl4⟩ := boxes2 HQ2.out HI2.out B4; have HO4 := Lib.hid ho4; have HM4 := Lib.hid hm4; have HB4 := Lib.hid B4; clear B4 hb4 ho4 hm4)
      | (go_simp; go_at_call 22; (with_reducible refine (HVW.out (w4.alloc (.cells #[.string ⟨#[]⟩, .slice none 0 0, .slice none 0 0] 25)) _ _ (HIA.out.keep (balloc HB4.out _))).mono ?_); rintro e w5 ⟨va, vc, rfl, ho5, hb5⟩; have B5 : Below W2.heap.size W2 w5 := bt2 (balloc HB4.out _) hb5; have HZ5 := Lib.hid ((Blk.new w4 25 #[.string ⟨#[]⟩, .slice none 0 0, .slice none 0 0]).below hb5 (by simp)); have HY5 := Lib.hid HB4.out.size; have HS5 := Lib.hid ((balloc (Below.refl _ w4) (.cells #[.string ⟨#[]⟩, .slice none 0 0, .slice none 0 0] 25)).trans (hb5.mono (by simp))); have HO5 := Lib.hid ho5; have HB5 := Lib.hid B5; have hsz5 := Lib.hid (show W2.heap.size ≤ (w4.alloc (.cells #[.string ⟨#[]⟩, .slice none 0 0, .slice none 0 0] 25)).heap.size by have := HB4.out.size; simp; omega); have zc := HZ5.out; have z05 := zc.cell 0; have z15 := zc.cell 1; have z25 := zc.cell 2; have f05 := zc.frozen 0; have f15 := zc.frozen 1; have f25 := zc.frozen 2; have zl5 := zc.lt; simp only [List.getElem?_toArray, List.getElem?_cons_zero, List.getElem?_cons_succ] at z05 z15 z25; clear zc; clear B5 hb5 ho5)
      | (go_simp; go_at_call 22; (with_reducible refine (HVW.out w4 _ _ (HIA.out.keep HB4.out)).mono ?_); rintro e w5 ⟨va, vc, rfl, ho5, hb5⟩; have B5 : Below W2.heap.size W2 w5 := bt2 HB4.out hb5; have HZ5 := Lib.hid (HZ4.out.below hb5 HZ4.out.lt); have HY5 := Lib.hid (Nat.le_refl W2.heap.size); have HS5 := Lib.hid hb5; have HO5 := Lib.hid ho5; have HB5 := Lib.hid B5; have hsz5 := Lib.hid HB4.out.size; have zc := HZ5.out; have z05 := zc.cell 0; have z15 := zc.cell 1; have z25 := zc.cell 2; have f05 := zc.frozen 0; have f15 := zc.frozen 1; have f25 := zc.frozen 2; have zl5 := zc.lt; simp only [List.getElem?_toArray, List.getElem?_cons_zero, List.getElem?_cons_succ] at z05 z15 z25; clear zc; clear B5 hb5 ho5)
      | (go_simp; go_at_call 22; (with_reducible refine (HVW.out w4 _ _ (HIA.out.keep HB4.out)).mono ?_); rintro e w5 ⟨va, vc, rfl, ho5, hb5⟩; have B5 : Below W2.heap.size W2 w5 := bt2 HB4.out hb5; have HS5 := Lib.hid hb5; have HO5 := Lib.hid ho5; have HB5 := Lib.hid B5; have hsz5 := Lib.hid HB4.out.size; clear B5 hb5 ho5))
    all_goals
      go_wp2_with fail
      go_meet
      first
        | exact ⟨_, _, _, _, _, _, _, rfl, rfl, Lib.hid (PV.early HO4.out HM4.out HS5.out HO5.out (by simp) (by first | exact hsz5.out | simp) HY5.out HZ5.out), Lib.hid ((set3_facts (a := .string name) (b := .slice pa n pc) (c := .slice pb na pd) HZ5.out).2.2.2 _ _ HY5.out HB5.out)⟩
        | exact ⟨_, _, _, _, _, _, _, rfl, rfl, Lib.hid (PV.late HO4.out HM4.out HS5.out HO5.out (by simp) hsz5.out HB5.out.size), Lib.hid (balloc HB5.out _)⟩
  case rest =>
    obtain ⟨gp, ga, gc, gb, gd, ta, tc, rfl, rfl, HP3, HB3⟩ := hcut
    obtain ⟨W3, rfl⟩ : ∃ W3 : World, W3 = wc := ⟨_, rfl⟩
    have HQ3 := Lib.hid (HQ2.out.below HB3.out HQ2.out.lt)
    have HI3 := Lib.hid (HI2.out.below HB3.out HI2.out.lt)
    have HIS3 := Lib.hid (HIS.out.keep HB3.out)
    have HIA3 := Lib.hid (HIA.out.keep HB3.out)
    have HGK3 := Lib.hid (fun W (hW : Below W3.heap.size W3 W) => HGK.out W (bt2 HB3.out hW))
    clear x0 x1 x2 y0 y1 y2 xl yl
    obtain ⟨x0, x1, x2, y0, y1, y2, xl, yl⟩ := boxes2 HQ3.out HI3.out (Below.refl _ _)
    go_upto_region 4 with fail
    go_cut [9, 10] from 32 to 35 (fun s9 s10 wx => ∃ gp pa pc pb pd va vc, s9 = .pointer (some ⟨gp, 0, none⟩) ∧ s10 = .slice va nv vc ∧ Hid (PV W3.heap.size wx name gp pa n pc pb na pd va nv vc (hd.map (vNo S)) (al.map (pAt S)) QV) ∧ Hid (Below W3.heap.size W3 wx))
    case first =>
      go_region_law (first
        | (go_simp; go_at_call 16; (with_reducible refine (HPLW.out (W3.alloc (.cells #[.string ⟨#[]⟩, .slice none 0 0, .slice none 0 0] 25)).drew _ _ (HIS3.out.keep (bdrew (balloc (Below.refl _ _) _))) (HIA3.out.keep (bdrew (balloc (Below.refl _ _) _))) (HGK3.out _ (bdrew (balloc (Below.refl _ _) _)))).mono ?_); rintro e w4 ⟨pa, pc, pb, pd, rfl, ho4, hm4, hb4⟩; have B4 : Below W3.heap.size W3 w4 := bt2 (bdrew (balloc (Below.refl _ _) _)) hb4; obtain ⟨x04, x14, x24, y04, y14, y24, xl4, yl4⟩ := boxes2 HQ3.out HI3.out B4; have HZ4 := Lib.hid ((Blk.new W3 25 #[.string ⟨#[]⟩, .slice none 0 0, .slice none 0 0]).drew.below hb4 (by simp)); have HO4 := Lib.hid ho4; have HM4 := Lib.hid hm4; have HB4 := Lib.hid B4; clear B4 hb4 ho4 hm4)
        | (go_simp; go_at_call 16; (with_reducible refine (HPLW.out W3.drew _ _ (HIS3.out.keep (bdrew (Below.refl _ _))) (HIA3.out.keep (bdrew (Below.refl _ _))) (HGK3.out _ (bdrew (Below.refl _ _)))).mono ?_); rintro e w4 ⟨pa, pc, pb, pd, rfl, ho4, hm4, hb4⟩; have B4 : Below W3.heap.size W3 w4 := bt2 (bdrew (Below.refl _ _)) hb4; obtain ⟨x04, x14, x24, y04, y14, y24, xl4, yl4⟩ := boxes2 HQ3.out HI3.out B4; have HO4 := Lib.hid ho4; have HM4 := Lib.hid hm4; have HB4 := Lib.hid B4; clear B4 hb4 ho4 hm4)
        | (go_simp; go_at_call 22; (with_reducible refine (HVW.out (w4.alloc (.cells #[.string ⟨#[]⟩, .slice none 0 0, .slice none 0 0] 25)) _ _ (HIA3.out.keep (balloc HB4.out _))).mono ?_); rintro e w5 ⟨va, vc, rfl, ho5, hb5⟩; have B5 : Below W3.heap.size W3 w5 := bt2 (balloc HB4.out _) hb5; have HZ5 := Lib.hid ((Blk.new w4 25 #[.string ⟨#[]⟩, .slice none 0 0, .slice none 0 0]).below hb5 (by simp)); have HY5 := Lib.hid HB4.out.size; have HS5 := Lib.hid ((balloc (Below.refl _ w4) (.cells #[.string ⟨#[]⟩, .slice none 0 0, .slice none 0 0] 25)).trans (hb5.mono (by simp))); have HO5 := Lib.hid ho5; have HB5 := Lib.hid B5; have hsz5 := Lib.hid (show W3.heap.size ≤ (w4.alloc (.cells #[.string ⟨#[]⟩, .slice none 0 0, .slice none 0 0] 25)).heap.size by have := HB4.out.size; simp; omega); have zc := HZ5.out; have z05 := zc.cell 0; have z15 := zc.cell 1; have z25 := zc.cell 2; have f05 := zc.frozen 0; have f15 := zc.frozen 1; have f25 := zc.frozen 2; have zl5 := zc.lt; simp only [List.getElem?_toArray, List.getElem?_cons_zero, List.getElem?_cons_succ] at z05 z15 z25; clear zc; clear B5 hb5 ho5)
        | (go_simp; go_at_call 22; (with_reducible refine (HVW.out w4 _ _ (HIA3.out.keep HB4.out)).mono ?_); rintro e w5 ⟨va, vc, rfl, ho5, hb5⟩; have B5 : Below W3.heap.size W3 w5 := bt2 HB4.out hb5; have HZ5 := Lib.hid (HZ4.out.below hb5 HZ4.out.lt); have HY5 := Lib.hid (Nat.le_refl W3.heap.size); have HS5 := Lib.hid hb5; have HO5 := Lib.hid ho5; have HB5 := Lib.hid B5; have hsz5 := Lib.hid HB4.out.size; have zc := HZ5.out; have z05 := zc.cell 0; have z15 := zc.cell 1; have z25 := zc.cell 2; have f05 := zc.frozen 0; have f15 := zc.frozen 1; have f25 := zc.frozen 2; have zl5 := zc.lt; simp only [List.getElem?_toArray, List.getElem?_cons_zero, List.getElem?_cons_succ] at z05 z15 z25; clear zc; clear B5 hb5 ho5)
        | (go_simp; go_at_call 22; (with_reducible refine (HVW.out w4 _ _ (HIA3.out.keep HB4.out)).mono ?_); rintro e w5 ⟨va, vc, rfl, ho5, hb5⟩; have B5 : Below W3.heap.size W3 w5 := bt2 HB4.out hb5; have HS5 := Lib.hid hb5; have HO5 := Lib.hid ho5; have HB5 := Lib.hid B5; have hsz5 := Lib.hid HB4.out.size; clear B5 hb5 ho5))
      all_goals
        go_wp2_with fail
        go_meet
        first
          | exact ⟨_, _, _, _, _, _, _, rfl, rfl, Lib.hid (PV.early HO4.out HM4.out HS5.out HO5.out (by simp) (by first | exact hsz5.out | simp) HY5.out HZ5.out), Lib.hid ((set3_facts (a := .string name) (b := .slice pa n pc) (c := .slice pb na pd) HZ5.out).2.2.2 _ _ HY5.out HB5.out)⟩
          | exact ⟨_, _, _, _, _, _, _, rfl, rfl, Lib.hid (PV.late HO4.out HM4.out HS5.out HO5.out (by simp) hsz5.out HB5.out.size), Lib.hid (balloc HB5.out _)⟩
    case rest =>
      obtain ⟨gq, qa, qc, qb, qd, ua, uc, rfl, rfl, HP4, HB4⟩ := hcut
      obtain ⟨W4, rfl⟩ : ∃ W4 : World, W4 = wc := ⟨_, rfl⟩
      obtain ⟨T, hQM⟩ := QM.start HP3.out HPB.out.hn HNV.out HPB.out.hm HPB.out.hs HPB.out.z3 HB4.out
      have HQM := Lib.hid hQM
      have hnb : n ≤ 1048576 := HPB.out.hh
      have hnab : na ≤ 1048576 := HPB.out.hs
      have hpx := HP3.out.box.below HB4.out HP3.out.box.lt
      have HPX := Lib.hid hpx
      have c1 := hpx.cell 1
      have c2 := hpx.cell 2
      have cl := hpx.lt
      simp only [List.getElem?_toArray, List.getElem?_cons_zero, List.getElem?_cons_succ] at c1 c2
      clear hQM hpx x0 x1 x2 y0 y1 y2 xl yl
      go_wp2_with fail
      go_loopw [39] (fun i wr => ∃ k : Nat, k ≤ n ∧ i = .int .i64 k ∧ Hid (QM (fun g => W2.heap.size ≤ g ∧ g < W3.heap.size ∧ g ≠ gp) W4 wr ga n ta nv gb na T)) (fun i _ => n - (intOf i).toNat)
      case atStart => exact ⟨0, Nat.zero_le _, rfl, HQM⟩
      case round =>
        obtain ⟨k, hk, rfl, HQ⟩ := hrel
        obtain ⟨wo, rfl⟩ : ∃ wo : World, wo = wr := ⟨_, rfl⟩
        have hpx := HPX.out.modQ HQ.out.mod (by simp)
        have d1 := hpx.cell 1
        have d2 := hpx.cell 2
        have dl := hpx.lt
        simp only [List.getElem?_toArray, List.getElem?_cons_zero, List.getElem?_cons_succ] at d1 d2
        clear hpx
        by_cases hlt : k < n
        · obtain ⟨g, rfl, hF, hgl, hat⟩ := HQ.out.head.at_ (by omega)
          obtain ⟨⟨u, hu⟩, hf⟩ := hat k (by omega)
          have hd1 : decide ((k : Int) < 0) = false := by simp
          have hd2 : decide ((n : Int) ≤ (k : Int)) = false := by simp; omega
          have HF := Lib.hid hF
          clear hat hF
          go_wp2_with fail
          go_roundw
          case rel => exact ⟨k + 1, by omega, by go_num, Lib.hid (HQ.out.set HF.out (HQ.out.ne1 g rfl) k [_])⟩
          case measure => simp [intOf]; omega
        · obtain rfl : k = n := by omega
          clear c1 c2 cl
          go_wp2_with fail
          go_loopw [49] (fun i wr => ∃ j : Nat, j ≤ nv ∧ i = .int .i64 j ∧ Hid (QM (fun g => W2.heap.size ≤ g ∧ g < W3.heap.size ∧ g ≠ gp) W4 wr ga k ta nv gb na T)) (fun i _ => nv - (intOf i).toNat)
          case atStart => exact ⟨0, Nat.zero_le _, rfl, HQ⟩
          case round =>
            obtain ⟨j, hj, rfl, HV⟩ := hrel
            obtain ⟨wi, rfl⟩ : ∃ wi : World, wi = wr := ⟨_, rfl⟩
            by_cases hjl : j < nv
            · obtain ⟨g, rfl, hF, hgl, hat⟩ := HV.out.vars.at_ (by omega)
              obtain ⟨⟨u, hu⟩, hf⟩ := hat j (by omega)
              have hd1 : decide ((j : Int) < 0) = false := by simp
              have hd2 : decide ((nv : Int) ≤ (j : Int)) = false := by simp; omega
              have HF := Lib.hid hF
              clear hat hF
              go_wp2_with fail
              go_roundw
              case rel => exact ⟨j + 1, by omega, by go_num, Lib.hid (HV.out.set HF.out (HV.out.ne2 g rfl) j [_])⟩
              case measure => simp [intOf]; omega
            · obtain rfl : j = nv := by omega
              have hpx := HPX.out.modQ HV.out.mod (by simp)
              have e1 := hpx.cell 1
              have e2 := hpx.cell 2
              have el := hpx.lt
              simp only [List.getElem?_toArray, List.getElem?_cons_zero, List.getElem?_cons_succ] at e1 e2
              clear hpx d1 d2 dl
              go_wp2_with fail
              go_loopw [59] (fun i wr => ∃ x : Nat, x ≤ na ∧ i = .int .i64 x ∧ Hid (QM (fun g => W2.heap.size ≤ g ∧ g < W3.heap.size ∧ g ≠ gp) W4 wr ga k ta j gb na T)) (fun i _ => na - (intOf i).toNat)
              case atStart => exact ⟨0, Nat.zero_le _, rfl, HV⟩
              case round =>
                obtain ⟨x, hx, rfl, HX⟩ := hrel
                obtain ⟨wx, rfl⟩ : ∃ wx : World, wx = wr := ⟨_, rfl⟩
                have hpx := HPX.out.modQ HX.out.mod (by simp)
                have s1 := hpx.cell 1
                have s2 := hpx.cell 2
                have sl := hpx.lt
                simp only [List.getElem?_toArray, List.getElem?_cons_zero, List.getElem?_cons_succ] at s1 s2
                clear hpx e1 e2 el
                by_cases hxl : x < na
                · obtain ⟨g, t, kk, cc, u, rfl, hF, hgl, hT, hu, hf, hcl, hkk, hW⟩ := HX.out.atoms.at_ hxl
                  have hd1 : decide ((x : Int) < 0) = false := by simp
                  have hd2 : decide ((na : Int) ≤ (x : Int)) = false := by simp; omega
                  have HF := Lib.hid hF
                  have HT := Lib.hid hT
                  clear hF hT hW
                  go_wp2_with fail
                  go_loopw [69] (fun i wr => ∃ y : Nat, y ≤ kk ∧ i = .int .i64 y ∧ Hid (QM (fun g => W2.heap.size ≤ g ∧ g < W3.heap.size ∧ g ≠ gp) W4 wr ga k ta j (some ⟨g, 0, none⟩) na T)) (fun i _ => kk - (intOf i).toNat)
                  case atStart => exact ⟨0, Nat.zero_le _, rfl, HX⟩
                  case round =>
                    obtain ⟨y, hy, rfl, HY⟩ := hrel
                    obtain ⟨wy, rfl⟩ : ∃ wy : World, wy = wr := ⟨_, rfl⟩
                    have hpx := HPX.out.modQ HY.out.mod (by simp)
                    have r1 := hpx.cell 1
                    have r2 := hpx.cell 2
                    have rl := hpx.lt
                    simp only [List.getElem?_toArray, List.getElem?_cons_zero, List.getElem?_cons_succ] at r1 r2
                    clear hpx s1 s2 sl hu hf hcl hgl
                    obtain ⟨g', t', k', c', u', hgg, hF', hgl', hT', hu', hf', hcl', _, hW'⟩ := HY.out.atoms.at_ hxl
                    injection hgg with hgg
                    injection hgg with hgg _ _
                    subst hgg
                    rw [HT.out] at hT'
                    simp only [Option.some.injEq, Prod.mk.injEq] at hT'
                    obtain ⟨rfl, rfl, rfl⟩ := hT'
                    by_cases hyl : y < kk
                    · obtain ⟨q, rfl, ⟨hq1, hq2⟩, hql, hqa⟩ := hW'.at_ (by omega)
                      have hth : wy.there q (y * 4) 4 := fun z hz => by
                        obtain ⟨⟨u2, hu2⟩, hf2⟩ := hqa (y * 4 + z) (by omega)
                        exact ⟨by rw [hu2]; rfl, hf2⟩
                      have HTH := Lib.hid hth
                      have HQF := Lib.hid hq1
                      have HQN := Lib.hid hq2
                      have he1 : decide ((y : Int) < 0) = false := by simp
                      have he2 : decide ((kk : Int) ≤ (y : Int)) = false := by simp; omega
                      clear hth hqa hq1 hq2
                      go_wp2_with (refine wpList_store_mid rfl 47 _ _ rfl _ _ _ rfl rfl ?ht (by kernel_rfl) (by simp [Value.oneCell']) ?_)
                      case ht => exact HTH.out
                      go_wp2_with fail
                      go_roundw
                      case rel => exact ⟨y + 1, by omega, by go_num, Lib.hid (HY.out.set HQF.out (fun e => HQN.out (by injection e with e; injection e with e _ _; exact e.symm)) _ _)⟩
                      case measure => simp [intOf]; omega
                    · obtain rfl : y = kk := by omega
                      clear hW'
                      go_wp2_with fail
                      go_roundw
                      case rel => exact ⟨x + 1, by omega, by go_num, Lib.hid (HY.out.setRel HF.out x _)⟩
                      case measure => simp [intOf]; omega
                · obtain rfl : x = na := by omega
                  obtain ⟨W5, rfl⟩ : ∃ W5 : World, W5 = wx := ⟨_, rfl⟩
                  have h24 : Below W2.heap.size W2 W4 := bt2 HB3.out HB4.out
                  have h45 : Below W2.heap.size W4 W5 := HX.out.mod.below h24.size (fun i hi => hi.1)
                  have h25 : Below W2.heap.size W2 W5 := h24.trans h45
                  have HP5 := Lib.hid (HP4.out.modQ HX.out.mod (fun i hi => by omega))
                  have HIS5 := Lib.hid (HIS.out.keep h25)
                  have HIA5 := Lib.hid (HIA.out.keep h25)
                  have HUS5 := Lib.hid (HUS.out.keep h25)
                  have HUA5 := Lib.hid (HUA.out.keep h25)
                  have HUR5 := Lib.hid (HUR.out.keep h25)
                  have HROW5 := Lib.hid (HROW.out.keep h25)
                  have HQ5 := Lib.hid (HQ2.out.below h25 HQ2.out.lt)
                  have HI5 := Lib.hid (HI2.out.below h25 HI2.out.lt)
                  have HB5 := Lib.hid h25
                  obtain ⟨p0, p1, p2, o0, o1, o2, pl, ol⟩ := boxes2 HQ5.out HI5.out (Below.refl _ _)
                  clear h24 h45 h25 s1 s2 sl
                  go_wp2_with fail
                  go_loopw [91] (fun i wr => ∃ z : Nat, z ≤ x ∧ i = .int .i64 z ∧ Hid (Below W5.heap.size W5 wr)) (fun i _ => x - (intOf i).toNat)
                  case atStart => exact ⟨0, Nat.zero_le _, rfl, Lib.hid (Below.refl _ _)⟩
                  case round =>
                    obtain ⟨z, hz, rfl, HBZ⟩ := hrel
                    obtain ⟨wz, rfl⟩ : ∃ wz : World, wz = wr := ⟨_, rfl⟩
                    by_cases hzl : z < x
                    · obtain ⟨a, hak⟩ : ∃ a, al[z]? = some a := ⟨al[z]'(by rw [HBD.out.hm]; exact hzl), List.getElem?_eq_getElem (by rw [HBD.out.hm]; exact hzl)⟩
                      obtain ⟨b, off, cap, tv, hv1, _, _, hbl, g0, g1, htr, hal⟩ := (HIA5.out.keep HBZ.out).get hak
                      rw [HBD.out.hm] at hv1
                      simp only [Value.slice.injEq, true_and] at hv1
                      obtain ⟨rfl, rfl⟩ := hv1
                      obtain ⟨tta, ttc, rfl, _, _⟩ := htr.form
                      simp only [List.length_map] at g1 htr
                      have hd1 : decide ((z : Int) < 0) = false := by simp
                      have hd2 : decide ((x : Int) ≤ (z : Int)) = false := by simp; omega
                      have bx := Blk.new wz 33 #[.string ⟨a.rel.toArray⟩, .slice tta a.ts.length ttc]
                      have hbx : Below wz.heap.size wz (wz.alloc (.cells #[.string ⟨a.rel.toArray⟩, .slice tta a.ts.length ttc] 33)) := balloc (Below.refl _ _) _
                      obtain ⟨Wa, hWa⟩ : ∃ Wa, wz.alloc (.cells #[.string ⟨a.rel.toArray⟩, .slice tta a.ts.length ttc] 33) = Wa := ⟨_, rfl⟩
                      rw [hWa] at bx hbx
                      have HWA := Lib.hid hWa
                      have HTR := Lib.hid (htr.keep hbx)
                      have HBX := Lib.hid bx
                      have HBWa := Lib.hid (bt2 HBZ.out hbx)
                      have HAL := Lib.hid hal
                      have b0 := bx.cell 0
                      have b1 := bx.cell 1
                      have bl := bx.lt
                      simp only [List.getElem?_toArray, List.getElem?_cons_zero, List.getElem?_cons_succ] at b0 b1
                      have hmw := matchW_any Wa ⟨a.rel.toArray⟩ _ _ a.ts r HTR.out (HROW5.out.keep HBWa.out) hal HRN.out
                      have hmo := fun W (hW : Below Wa.heap.size Wa W) => matchO_any W ⟨a.rel.toArray⟩ _ _ a.ts r (HTR.out.keep hW) (HROW5.out.keep (bt2 HBWa.out hW)) hal HRN.out
                      have hrf := fun W (hW : Below Wa.heap.size Wa W) => refMatchO_any W ⟨a.rel.toArray⟩ _ _ a.ts r (HTR.out.keep hW) (HUR5.out.keep (bt2 HBWa.out hW)) hal HRN.out
                      obtain ⟨MR, hMR⟩ : ∃ MR, matchR a.ts r = MR := ⟨_, rfl⟩
                      simp only [hMR] at hmw hmo hrf
                      have HMW := Lib.hid hmw
                      have HMO := Lib.hid hmo
                      have HRF := Lib.hid hrf
                      have hself : (MR.isSome == MR.isSome) = true := by simp
                      have hselfn : (MR.isSome != MR.isSome) = false := by simp
                      clear htr hal hak bx hbx hWa hmw hmo hrf hMR
                      go_upto_region 28 with fail
                      rw [HWA.out]
                      go_wp2_with fail
                      refine HMW.out.mono ?_
                      rintro e w6 ⟨ma, mn, mc, rfl, hwr, hmn, hb6⟩
                      have HB6 := Lib.hid hb6
                      have HWR := Lib.hid hwr
                      clear hwr hb6 HMW b0 b1 bl
                      go_wp2_with fail
                      go_loopw [103] (fun i wr => ∃ y : Nat, y ≤ mn ∧ i = .int .i64 y ∧ Hid (Wrt (fun g => Wa.heap.size ≤ g) wr 3 ma mn) ∧ Hid (Below Wa.heap.size Wa wr)) (fun i _ => mn - (intOf i).toNat)
                      case atStart => exact ⟨0, Nat.zero_le _, rfl, HWR, HB6⟩
                      case round =>
                        obtain ⟨y, hy, rfl, HY, HBY⟩ := hrel
                        obtain ⟨wy, rfl⟩ : ∃ wy : World, wy = wr := ⟨_, rfl⟩
                        by_cases hyl : y < mn
                        · obtain ⟨q, rfl, hqf, hql, hqa⟩ := HY.out.at_ (by omega)
                          have hth : wy.there q (y * 3) 3 := fun z hz => by
                            obtain ⟨⟨u2, hu2⟩, hf2⟩ := hqa (y * 3 + z) (by omega)
                            exact ⟨by rw [hu2]; rfl, hf2⟩
                          have HTH := Lib.hid hth
                          have HQF := Lib.hid hqf
                          have he1 : decide ((y : Int) < 0) = false := by simp
                          have he2 : decide ((mn : Int) ≤ (y : Int)) = false := by simp; omega
                          clear hth hqa hqf
                          go_wp2_with (refine wpList_store_mid rfl 45 _ _ rfl _ _ _ rfl rfl ?ht (by kernel_rfl) (by simp [Value.oneCell']) ?_)
                          case ht => exact HTH.out
                          go_wp2_with fail
                          go_roundw
                          case rel => exact ⟨y + 1, by omega, by go_num, Lib.hid (HY.out.set _ _ _), Lib.hid (HBY.out.trans ((mod_setCellsQ (F := fun g => Wa.heap.size ≤ g) HQF.out _ _ wy).below HBY.out.size (fun i hi => hi)))⟩
                          case measure => simp [intOf]; omega
                        · obtain rfl : y = mn := by omega
                          have bxi := HBX.out.below HBY.out HBX.out.lt
                          have z0 := bxi.cell 0
                          have z1 := bxi.cell 1
                          have zl := bxi.lt
                          simp only [List.getElem?_toArray, List.getElem?_cons_zero, List.getElem?_cons_succ] at z0 z1
                          clear bxi
                          go_wp2_with fail
                          refine (HMO.out wy HBY.out).mono ?_
                          rintro e w7 ⟨a7, n7, c7, rfl, hx7, hb7⟩
                          have hb7' := bt2 HBY.out hb7
                          have bx7 := HBX.out.below hb7' HBX.out.lt
                          have y0 := bx7.cell 0
                          have y1 := bx7.cell 1
                          have yl := bx7.lt
                          simp only [List.getElem?_toArray, List.getElem?_cons_zero, List.getElem?_cons_succ] at y0 y1
                          have HX7 := Lib.hid hx7
                          have HB7 := Lib.hid hb7'
                          clear bx7 hx7 hb7 hb7' z0 z1 zl HMO
                          go_wp2_with fail
                          refine (HRF.out w7 HB7.out).mono ?_
                          rintro e w8 ⟨a8, n8, c8, rfl, hx8, hb8⟩
                          have HSA := Lib.hid (sameRow_any w8 _ _ _ _ (HX7.out.keep hb8) hx8)
                          have HB8 := Lib.hid (bt2 HB7.out hb8)
                          clear hx8 hb8 y0 y1 yl HRF
                          go_wp2_with fail
                          refine HSA.out.mono ?_
                          rintro e w9 ⟨rfl, hb9⟩
                          have hsv : sameV (MR.getD []) (MR.getD []) = true := decide_eq_true rfl
                          rw [hsv]
                          have HB9 := Lib.hid (bt2 HB8.out hb9)
                          clear hb9
                          go_wp2_with fail
                          go_roundw
                          case rel => exact ⟨z + 1, by omega, by go_num, Lib.hid (bt2 HBWa.out HB9.out)⟩
                          case measure => simp [intOf]; omega
                    · obtain rfl : z = x := by omega
                      have hbz : Below W2.heap.size W2 wz := bt2 HB5.out HBZ.out
                      have HPZ := Lib.hid (HP5.out.keep HBZ.out)
                      have HQZ := Lib.hid (HQ5.out.below HBZ.out HQ5.out.lt)
                      have HIZ := Lib.hid (HI5.out.below HBZ.out HI5.out.lt)
                      have HISZ := Lib.hid (HIS5.out.keep HBZ.out)
                      have HIAZ := Lib.hid (HIA5.out.keep HBZ.out)
                      have HUSZ := Lib.hid (HUS5.out.keep HBZ.out)
                      have HUAZ := Lib.hid (HUA5.out.keep HBZ.out)
                      have HURZ := Lib.hid (HUR5.out.keep HBZ.out)
                      have HROWZ := Lib.hid (HROW5.out.keep HBZ.out)
                      have HAW := Lib.hid (fun W (hW : Below wz.heap.size wz W) => awake09 W (HGK.out W (bt2 hbz hW)))
                      have HBW := Lib.hid (HB2.out.trans (hbz.mono HB2.out.size))
                      have hpsz : StrsAt wz (.slice qa k qc) (hd.map (vNo S)) := HPZ.out.head.strs (by rw [HPB.out.hn]; have := HPB.out.hh; omega)
                      have hpaz : AtomsAt wz (.slice qb z qd) (al.map (pAt S)) := AtmsOwn.at_ HPZ.out.atoms (by rw [HPB.out.hm]; have := HPB.out.hs; omega) HPB.out.z3
                      have hpvz : StrsAt wz (.slice ua j uc) QV := HPZ.out.vars.strs (by rw [HNV.out]; omega)
                      have hrp := fun W (hW : Below wz.heap.size wz W) => refPlain_any W name _ _ hd al (HUSZ.out.keep hW) (HUAZ.out.keep hW) (by rw [HBD.out.hm]; exact HBD.out.hs) HBD.out.ts (by rw [HBD.out.hn]; exact HBD.out.hh)
                      have hrv := fun W (a : Value) (hW : Below wz.heap.size wz W) => refVars_any W name a _ al (HUAZ.out.keep hW) (by rw [HBD.out.hm]; exact HBD.out.hs) HBD.out.ts
                      simp only [HPQ.out] at hrp
                      simp only [HQV.out] at hrv
                      have HRP := Lib.hid hrp
                      have HRV := Lib.hid hrv
                      have HPSZ := Lib.hid hpsz
                      have HPAZ := Lib.hid hpaz
                      have HPVZ := Lib.hid hpvz
                      obtain ⟨x0, x1, x2, y0, y1, y2, xl, yl⟩ := boxes2 HQZ.out HIZ.out (Below.refl _ _)
                      obtain ⟨u0, u1, u2, ul⟩ := boxes1 HPZ.out.box (Below.refl _ _)
                      clear hbz hpsz hpaz hpvz hrp hrv p0 p1 p2 o0 o1 o2 pl ol
                      go_wp2_with fail
                      go_region_law (first
                        | (go_simp; go_at_call 14; refine (HAW.out _ (bdrew (Below.refl _ _))).mono ?_; rintro e w3 ⟨rfl, hb3⟩; have B3 : Below wz.heap.size wz w3 := bt2 (bdrew (Below.refl _ _)) hb3; obtain ⟨x03, x13, x23, y03, y13, y23, xl3, yl3⟩ := boxes2 HQZ.out HIZ.out B3; have HSI := Lib.hid (same_any w3 name _ _ _ _ hd al (HISZ.out.keep B3) (HUSZ.out.keep B3) (HIAZ.out.keep B3) (HUAZ.out.keep B3)); have HB3 := Lib.hid B3; clear B3 hb3)
                        | (go_simp; go_at_call 15; (with_reducible refine HSI.out.mono ?_); rintro e w4 ⟨rfl, hb4⟩; have B4 : Below wz.heap.size wz w4 := bt2 HB3.out hb4; have hsr := sameRow_any w4 _ _ r r (HROWZ.out.keep B4) (HURZ.out.keep B4); rw [show sameV r r = true from decide_eq_true rfl] at hsr; have HSR := Lib.hid hsr; have HB4 := Lib.hid B4; clear B4 hb4 hsr)
                        | (go_simp; go_at_call 21; (with_reducible refine HSR.out.mono ?_); rintro e w5 ⟨rfl, hb5⟩; have B5 : Below wz.heap.size wz w5 := bt2 HB4.out hb5; obtain ⟨x05, x15, x25, y05, y15, y25, xl5, yl5⟩ := boxes2 HQZ.out HIZ.out B5; obtain ⟨u05, u15, u25, ul5⟩ := boxes1 HPZ.out.box B5; have HB5 := Lib.hid B5; clear B5 hb5)
                        | (go_simp; go_at_call 17; refine (HRP.out w5 HB5.out).mono ?_; rintro e w6 ⟨rv6, ra6, rfl, hr6, hs6, hb6⟩; obtain ⟨rb6, rc6, rfl, _, _⟩ := hr6.form; obtain ⟨rd6, re6, rfl, _, _⟩ := hs6.form; simp only [List.length_map] at hr6 hs6; have B6 : Below wz.heap.size wz w6 := bt2 HB5.out hb6; obtain ⟨x06, x16, x26, y06, y16, y26, xl6, yl6⟩ := boxes2 HQZ.out HIZ.out B6; obtain ⟨u06, u16, u26, ul6⟩ := boxes1 HPZ.out.box B6; have HSP := Lib.hid (same_any w6 name _ _ _ _ (hd.map (vNo S)) (al.map (pAt S)) (HPSZ.out.keep B6) hr6 (HPAZ.out.keep B6) hs6); have HB6 := Lib.hid B6; clear B6 hb6 hr6 hs6)
                        | (go_simp; go_at_call 15; (with_reducible refine HSP.out.mono ?_); rintro e w7 ⟨rfl, hb7⟩; have B7 : Below wz.heap.size wz w7 := bt2 HB6.out hb7; obtain ⟨x07, x17, x27, y07, y17, y27, xl7, yl7⟩ := boxes2 HQZ.out HIZ.out B7; have HB7 := Lib.hid B7; clear B7 hb7)
                        | (go_simp; go_at_call 25; refine (HRV.out w7 _ HB7.out).mono ?_; rintro e w8 ⟨v8, rfl, ho8, hb8⟩; obtain ⟨va8, vc8, rfl⟩ := own_sl (show World.ownsRow _ _ _ _ _ _ _ from ho8); have B8 : Below wz.heap.size wz w8 := bt2 HB7.out hb8; have hst := sameTexts_any w8 _ _ QV QV (HPVZ.out.keep B8) (ho8.strs (by rw [HNV.out]; omega)); rw [decide_eq_true (rfl : QV = QV)] at hst; have HST := Lib.hid hst; have HB8 := Lib.hid B8; clear B8 hb8 ho8 hst)
                        | (go_simp; go_at_call 24; (with_reducible refine HST.out.mono ?_); rintro e w9 ⟨rfl, hb9⟩; have HB9 := Lib.hid (bt2 HB8.out hb9); clear hb9))
                      all_goals
                        go_wp2_with fail
                        go_ret
                        exact ⟨by first | rfl | simp, HBW.out.trans (HB9.out.mono HBW.out.size)⟩
end Go.Proofs.YtgilflkgibfjgaaDoor
