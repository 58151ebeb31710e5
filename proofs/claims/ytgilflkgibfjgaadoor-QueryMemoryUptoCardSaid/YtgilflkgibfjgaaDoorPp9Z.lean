/- QueryPlain, walked. -/
import Derived.Test.YtgilflkgibfjgaaDoorRplZ
import Derived.Test.YtgilflkgibfjgaaDoorUqZ
import Derived.Test.YtgilflkgibfjgaaDoorFsZ
import Derived.Test.YtgilflkgibfjgaaDoorGz
import Derived.Deep.RegionLaw
namespace Go.Proofs.YtgilflkgibfjgaaDoor
open Go.RowKit
set_option linter.unusedVariables false

theorem boxes2 {W W' : World} {g1 g2 : Nat} {a b c a' b' c' : Value} (h1 : Blk W g1 25 #[a, b, c]) (h2 : Blk W g2 25 #[a', b', c']) (hb : Below W.heap.size W W') :
    W'.cell? ⟨g1, 0, none⟩ = some a ∧ W'.cell? ⟨g1, 1, none⟩ = some b ∧ W'.cell? ⟨g1, 2, none⟩ = some c ∧ W'.cell? ⟨g2, 0, none⟩ = some a' ∧ W'.cell? ⟨g2, 1, none⟩ = some b' ∧ W'.cell? ⟨g2, 2, none⟩ = some c' ∧ g1 < W'.heap.size ∧ g2 < W'.heap.size := by
  have k1 := h1.below hb h1.lt
  have k2 := h2.below hb h2.lt
  exact ⟨k1.cell 0, k1.cell 1, k1.cell 2, k2.cell 0, k2.cell 1, k2.cell 2, k1.lt, k2.lt⟩
theorem plainQ_len (q : Qry) : (plainQ q).head.length = q.head.length ∧ (plainQ q).atoms.length = q.atoms.length := by
  unfold plainQ plainL
  simp
theorem plainQ_small {q : Qry} (h : ∀ a ∈ q.atoms, a.ts.length ≤ 2932031007317) : ∀ a ∈ (plainQ q).atoms, a.ts.length ≤ 2932031007317 := by
  intro a ha
  obtain ⟨b, hb, rfl⟩ := List.mem_map.1 (show a ∈ q.atoms.map (pAt (seenQ q)) from ha)
  have := h b hb
  show (b.ts.map (pTm (seenQ q))).length ≤ _
  rw [List.length_map]
  exact this
theorem AtmsOwn.at_ {B : Nat} {w : World} {v : Value} {al : List Atm} (h : AtmsOwn B w v al) (hl : al.length ≤ 8796093022208) (ht : ∀ a ∈ al, a.ts.length ≤ 2932031007317) : AtomsAt w v al := by
  obtain ⟨rows, h1, h2⟩ := h
  exact atomsRowG h1 rfl h2 hl ht

set_option maxHeartbeats 8000000 in
set_option maxRecDepth 100000 in
theorem qplain_card (name : ByteArray) (hv av : Value) (w : World) {hd : List (List UInt8)} {al : List Atm} (h : UptoQ w name hv av hd al) (hg : Glob w) :
    Calls Tryd.prog 3 #[.agg #[.string name, hv, av]] w fun e w' => e = .returned (.bool true) ∧ Below w.heap.size w w' := by
  have hb0 : Below w.heap.size w (w.alloc (.cells #[.string name, hv, av] 25)) := balloc (Below.refl _ _) _
  have hcp := copyQ_any (w.alloc (.cells #[.string name, hv, av] 25)) name hv av hd al (h.head.keep hb0) (h.atoms.keep hb0) (by have := h.alen; omega)
  have hq0 := Blk.new w 25 #[.string name, hv, av]
  have hsm := h.atoms.small
  obtain ⟨hla, hlb⟩ := plainQ_len ⟨name.data.toList, hd, al⟩
  have hpsm := plainQ_small (q := ⟨name.data.toList, hd, al⟩) hsm
  have hln := h.hlen
  have hla2 := h.alen
  simp only at hla hlb
  have HPLN := Lib.hid (fun W a b (h1 : StrsAt W a hd) (h2 : AtomsAt W b al) (hgW : Glob W) => plainq_any W name a b hd al h1 h2 h.alen h.tlen h.hlen h.heads (fun x hx t ht => ((h.each x hx).2 t ht).2) hgW)
  have HRPL := Lib.hid (fun W a b (h1 : StrsAt W a hd) (h2 : AtomsAt W b al) => refPlain_any W name a b hd al h1 h2 h.alen h.tlen h.hlen)
  obtain ⟨ha, hc, rfl, _, _⟩ := h.head.form
  obtain ⟨aa, ac, rfl, _, _⟩ := h.atoms.form
  have HU := Lib.hid h
  have HCP := Lib.hid hcp
  have HQ0 := Lib.hid hq0
  have HB0 := Lib.hid hb0
  have HG := Lib.hid hg
  have HPSM := Lib.hid hpsm
  clear h hcp hq0 hb0 hg hsm hpsm
  obtain ⟨PH, hPH⟩ : ∃ PH, (plainQ ⟨name.data.toList, hd, al⟩).head = PH := ⟨_, rfl⟩
  obtain ⟨PA, hPA⟩ : ∃ PA, (plainQ ⟨name.data.toList, hd, al⟩).atoms = PA := ⟨_, rfl⟩
  rw [hPH] at HPLN HRPL hla
  rw [hPA] at HPLN HRPL HPSM hlb
  have HLA := Lib.hid hla
  have HLB := Lib.hid hlb
  clear hPH hPA hla hlb
  generalize hN : hd.length = n at *
  generalize hM : al.length = na at *
  have HN := Lib.hid hN
  have HM := Lib.hid hM
  clear hN hM
  go_enter Tryd.func3, Tryd.ntmps3
  go_wp2_with fail
  refine HCP.out.mono ?_
  rintro e w1 ⟨hv1, av1, rfl, hs1, ha1, hb1⟩
  obtain ⟨ia, ic, rfl, _, _⟩ := hs1.form
  obtain ⟨ja, jc, rfl, _, _⟩ := ha1.form
  have hbn : Below w1.heap.size w1 (w1.alloc (.cells #[.string name, .slice ia hd.length ic, .slice ja al.length jc] 25)) := balloc (Below.refl _ _) _
  have hbw := HB0.out.trans (hb1.mono HB0.out.size)
  have hqn := (HQ0.out.below hb1 HQ0.out.lt).alloc (.cells #[.string name, .slice ia hd.length ic, .slice ja al.length jc] 25)
  have hin := Blk.new w1 25 #[.string name, .slice ia hd.length ic, .slice ja al.length jc]
  obtain ⟨W2, hW2⟩ : ∃ W2, w1.alloc (.cells #[.string name, .slice ia hd.length ic, .slice ja al.length jc] 25) = W2 := ⟨_, rfl⟩
  rw [hW2] at hbn hqn hin
  have hb2 := hbw.trans (hbn.mono hbw.size)
  rw [HN.out] at hin hs1 hW2
  rw [HM.out] at hin ha1 hW2
  have HIS := Lib.hid (hs1.keep hbn)
  have HIA := Lib.hid (ha1.keep hbn)
  have HQ2 := Lib.hid hqn
  have HI2 := Lib.hid hin
  have HB2 := Lib.hid hb2
  have HW2 := Lib.hid hW2
  have HGK := Lib.hid (fun W (hW : Below W2.heap.size W2 W) => HG.out.below (hb2.trans (hW.mono hb2.size)))
  have HUS := Lib.hid (fun W (hW : Below W2.heap.size W2 W) => HU.out.head.keep (hb2.trans (hW.mono hb2.size)))
  have HUA := Lib.hid (fun W (hW : Below W2.heap.size W2 W) => HU.out.atoms.keep (hb2.trans (hW.mono hb2.size)))
  obtain ⟨x0, x1, x2, y0, y1, y2, xl, yl⟩ := boxes2 hqn hin (Below.refl _ _)
  rw [HN.out, HM.out]
  clear hbn hbw hqn hin hW2 hb2 hs1 ha1 hb1 HCP HQ0
  go_wp2_with fail
  rw [HW2.out]
  go_region_law (first
    | (go_simp; go_at_call 14; refine (awake09 _ (HGK.out _ (bdrew (Below.refl _ _)))).mono ?_; rintro e w3 ⟨rfl, hb3⟩; have B3 : Below W2.heap.size W2 w3 := bt2 (bdrew (Below.refl _ _)) hb3; obtain ⟨x03, x13, x23, y03, y13, y23, xl3, yl3⟩ := boxes2 HQ2.out HI2.out B3; have HB3 := Lib.hid B3; clear B3 hb3)
    | (go_simp; go_at_call 16; refine (HPLN.out w3 _ _ (HIS.out.keep HB3.out) (HIA.out.keep HB3.out) (HGK.out _ HB3.out)).mono ?_; rintro e w4 ⟨pv, pa, rfl, ho4, hm4, hb4⟩; obtain ⟨pb, pc, rfl⟩ := own_sl (show World.ownsRow _ _ _ _ _ _ _ from ho4); have hps : StrsAt w4 _ PH := ho4.strs (by rw [HLA.out]; omega); have hpt : AtomsAt w4 pa PA := AtmsOwn.at_ hm4 (by rw [HLB.out]; omega) HPSM.out; obtain ⟨prows, hpr, _⟩ := hm4; obtain ⟨pd, pe, rfl⟩ := own_sl hpr; have B4 : Below W2.heap.size W2 w4 := bt2 HB3.out hb4; obtain ⟨x04, x14, x24, y04, y14, y24, xl4, yl4⟩ := boxes2 HQ2.out HI2.out B4; have HPS := Lib.hid hps; have HPT := Lib.hid hpt; have HB4 := Lib.hid B4; clear B4 hb4 hps hpt ho4 hpr)
    | (go_simp; go_at_call 17; refine (HRPL.out w4 _ _ (HUS.out _ HB4.out) (HUA.out _ HB4.out)).mono ?_; rintro e w5 ⟨rv, ra, rfl, hr5, hs5, hb5⟩; obtain ⟨rb, rc, rfl, _, _⟩ := hr5.form; obtain ⟨rd, re, rfl, _, _⟩ := hs5.form; have B5 : Below W2.heap.size W2 w5 := bt2 HB4.out hb5; obtain ⟨x05, x15, x25, y05, y15, y25, xl5, yl5⟩ := boxes2 HQ2.out HI2.out B5; have HSM := Lib.hid (same_any w5 name _ _ _ _ PH PA (HPS.out.keep hb5) hr5 (HPT.out.keep hb5) hs5); have HB5 := Lib.hid B5; clear B5 hb5 hr5 hs5)
    | (go_simp; go_at_call 15; (with_reducible refine HSM.out.mono ?_); rintro e w6 ⟨rfl, hb6⟩; have B6 : Below W2.heap.size W2 w6 := bt2 HB5.out hb6; obtain ⟨x06, x16, x26, y06, y16, y26, xl6, yl6⟩ := boxes2 HQ2.out HI2.out B6; have HSM2 := Lib.hid (same_any w6 name _ _ _ _ hd al (HIS.out.keep B6) (HUS.out _ B6) (HIA.out.keep B6) (HUA.out _ B6)); have HB6 := Lib.hid B6; clear B6 hb6)
    | (go_simp; go_at_call 15; (with_reducible refine HSM2.out.mono ?_); rintro e w7 ⟨rfl, hb7⟩; have HB7 := Lib.hid (HB2.out.trans ((bt2 HB6.out hb7).mono HB2.out.size)); clear hb7))
  all_goals
    go_wp2_with fail
    go_ret
    exact ⟨by first | rfl | simp, HB7.out⟩
end Go.Proofs.YtgilflkgibfjgaaDoor
