/- QueryVars, walked. -/
import Derived.Test.YtbehonaegfpmoaaDoorCqZ
import Derived.Test.YtbehonaegfpmoaaDoorGz
import Derived.Test.YtbehonaegfpmoaaDoorMs9Z
namespace Go.Proofs.YtbehonaegfpmoaaDoor
open Go.RowKit
set_option linter.unusedVariables false

theorem qVars_len (al : List Atm) : (qVars al).length ≤ tsum al := by
  have h : ∀ (al : List Atm) (o : List (List UInt8)), (al.foldl (fun o a => (atomVars a.ts).foldl addN o) o).length ≤ o.length + tsum al := by
    intro al
    induction al with
    | nil => intro o; simp [tsum]
    | cons a l ih =>
      intro o
      have h1 := ih ((atomVars a.ts).foldl addN o)
      have h2 := foldl_len addN addN_len o (atomVars a.ts)
      have h3 := atomVars_len a.ts
      simp only [List.foldl_cons, tsum, List.map_cons, List.sum_cons] at h1 ⊢
      omega
  have := h al []
  simpa [qVars] using this

set_option maxHeartbeats 8000000 in
set_option maxRecDepth 100000 in
theorem vars_law (w : World) (name : ByteArray) (hv av : Value) (hd : List (List UInt8)) (al : List Atm) (h1 : StrsAt w hv hd) (h2 : AtomsAt w av al) (hn : al.length ≤ 1048576) (hs : tsum al ≤ 1048576) (hg : Glob w) :
    Calls Tryd.prog 4 #[.agg #[.string name, hv, av]] w fun e w' => e = .returned (.bool true) ∧ Below w.heap.size w w' := by
  obtain ⟨ad, cap, rfl, hnc, hcm⟩ := h2.form
  obtain ⟨hh, hc, rfl, hhc, hhm⟩ := h1.form
  have hvq := qVars_len al
  have bx := Blk.new w 25 #[.string name, .slice hh hd.length hc, .slice ad al.length cap]
  have b0 : Below w.heap.size w (w.alloc (.cells #[.string name, .slice hh hd.length hc, .slice ad al.length cap] 25)) := balloc (Below.refl _ _) _
  have hcq := copyQ_any (w.alloc (.cells #[.string name, .slice hh hd.length hc, .slice ad al.length cap] 25)).drew name _ _ hd al (h1.keep (bdrew b0)) (h2.keep (bdrew b0)) hn
  have HVA := Lib.hid (fun W hv' av' (hh : AtomsAt W av' al) => vars_any W name hv' av' al hh hn hs)
  have HRV := Lib.hid (fun W hv' av' (hh : AtomsAt W av' al) => refVars_any W name hv' av' al hh hn hs)
  have HQV := Lib.hid hvq
  have hql : (qVars al).length ≤ 8796093022208 := by omega
  have HQL := Lib.hid hql
  have HSM := Lib.hid h2.small
  generalize qVars al = V at *
  generalize hN : al.length = n at *
  have HN := Lib.hid hN
  have HR := Lib.hid h2
  have BX := Lib.hid bx
  have B0 := Lib.hid b0
  have HCQ := Lib.hid hcq
  have HG := Lib.hid hg
  clear h1 h2 bx b0 hcq hvq hql hN hs hg
  go_enter Tryd.func4, Tryd.ntmps4
  go_wp2_with fail
  have x0 := BX.out.cell 0
  have x1 := BX.out.cell 1
  have x2 := BX.out.cell 2
  simp only [List.getElem?_toArray, List.getElem?_cons_zero, List.getElem?_cons_succ] at x0 x1 x2
  have hxl := BX.out.lt
  go_cut [11] from 5 to 10 (fun s11 wx => s11 = .bool false ∧ Hid (Blk wx w.heap.size 25 #[.string name, .slice hh hd.length hc, .slice ad n cap]) ∧ Hid (Below w.heap.size w wx))
  case first =>
    go_region_law (first
      | (go_simp; go_at_call 22; refine HCQ.out.mono ?_; rintro e w1 ⟨hv1, av1, rfl, hs1, ha1, hb1⟩; obtain ⟨h1a, h1c, rfl, _, _⟩ := hs1.form; obtain ⟨a1a, a1c, rfl, _, _⟩ := ha1.form; have xb := BX.out.drew.below hb1 (by simp); have y0 := xb.cell 0; have y1 := xb.cell 1; have y2 := xb.cell 2; have yl := xb.lt; simp only [List.getElem?_toArray, List.getElem?_cons_zero, List.getElem?_cons_succ] at y0 y1 y2; have HX1 := Lib.hid xb; have HA1 := Lib.hid ha1; have HB1 := Lib.hid ((bdrew B0.out).trans (hb1.mono (by simp))); clear xb hs1 ha1 hb1)
      | (go_simp; go_at_call 21; refine (HVA.out _ _ _ HA1.out).mono ?_; rintro e w2 ⟨v2, rfl, ho2, hb2⟩; obtain ⟨v2a, v2c, rfl⟩ := own_sl (show World.ownsRow _ _ _ _ _ _ _ from ho2); have xb := HX1.out.below hb2 HX1.out.lt; have z0 := xb.cell 0; have z1 := xb.cell 1; have z2 := xb.cell 2; have zl := xb.lt; simp only [List.getElem?_toArray, List.getElem?_cons_zero, List.getElem?_cons_succ] at z0 z1 z2; have HX2 := Lib.hid xb; have HS2 := Lib.hid (ho2.strs HQL.out); have HB2 := Lib.hid (HB1.out.trans (hb2.mono HB1.out.size)); clear xb ho2 hb2)
      | (go_simp; go_at_call 23; refine (HRV.out _ _ _ (HR.out.keep HB2.out)).mono ?_; rintro e w3 ⟨v3, rfl, ho3, hb3⟩; obtain ⟨v3a, v3c, rfl⟩ := own_sl (show World.ownsRow _ _ _ _ _ _ _ from ho3); have HX3 := Lib.hid (HX2.out.below hb3 HX2.out.lt); have HS3 := Lib.hid (HS2.out.keep hb3); have HT3 := Lib.hid (ho3.strs HQL.out); have HB3 := Lib.hid (HB2.out.trans (hb3.mono HB2.out.size)); clear ho3 hb3)
      | (go_simp; go_at_call 20; refine (sameTexts_any _ _ _ _ _ HS3.out HT3.out).mono ?_; rintro e w4 ⟨rfl, hb4⟩; have hdt : decide (V = V) = true := decide_eq_true rfl; have HX4 := Lib.hid (HX3.out.below hb4 HX3.out.lt); have HB4 := Lib.hid (HB3.out.trans (hb4.mono HB3.out.size)); clear hb4))
    all_goals
      go_wp2_with fail
      go_meet
      exact ⟨by simp, HX4, HB4⟩
  case rest =>
    obtain ⟨rfl, HX, HB⟩ := hcut
    have y2 := HX.out.cell 2
    simp only [List.getElem?_toArray, List.getElem?_cons_zero, List.getElem?_cons_succ] at y2
    have hyl := HX.out.lt
    go_wp2_with fail
    go_loopw [15] (fun i wr => ∃ k : Nat, k ≤ n ∧ i = .int .i64 k ∧ Hid (Below w.heap.size w wr)) (fun i _ => n - (intOf i).toNat)
    case atStart => exact ⟨0, Nat.zero_le _, rfl, HB⟩
    case round =>
      obtain ⟨k, hk, rfl, BW⟩ := hrel
      by_cases hlt : k < n
      · obtain ⟨a, ha⟩ : ∃ a, al[k]? = some a := ⟨al[k]'(by rw [HN.out]; exact hlt), List.getElem?_eq_getElem (by rw [HN.out]; exact hlt)⟩
        obtain ⟨b, off, cap', tv, hv', _, _, hbl, g0, g1, hrow, hal⟩ := (HR.out.keep BW.out).get ha
        rw [HN.out] at hv'
        simp only [Value.slice.injEq, true_and] at hv'
        obtain ⟨rfl, rfl⟩ := hv'
        obtain ⟨ta, tc, rfl, _, _⟩ := hrow.form
        have hd1 : decide ((k : Int) < 0) = false := by simp
        have hd2 : decide ((n : Int) ≤ (k : Int)) = false := by simp; omega
        simp only [List.length_map] at g1 hrow
        have hz : (wr.alloc (.cells #[.string ⟨a.rel.toArray⟩, .slice ta a.ts.length tc] 39)).drew.heap.size = wr.heap.size + 1 := by simp
        have hr0 : RowAt (wr.alloc (.cells #[.string ⟨a.rel.toArray⟩, .slice ta a.ts.length tc] 39)).drew (.slice ta a.ts.length tc) 4 (a.ts.map Trm.cells) := hrow.keep (bdrew (balloc (Below.refl _ _) _))
        have hca := copyAtom_any (wr.alloc (.cells #[.string ⟨a.rel.toArray⟩, .slice ta a.ts.length tc] 39)).drew ⟨a.rel.toArray⟩ (.slice ta a.ts.length tc) a.ts hr0 hal
        have bt := (Blk.new wr 39 #[.string ⟨a.rel.toArray⟩, .slice ta a.ts.length tc]).drew
        have bw := bdrew (balloc BW.out (.cells #[.string ⟨a.rel.toArray⟩, .slice ta a.ts.length tc] 39))
        rw [hz] at hca
        have hvl := atomVars_len a.ts
        have HAV := Lib.hid (fun W tv' (hh : RowAt W tv' 4 (a.ts.map Trm.cells)) => atomVars_any W ⟨a.rel.toArray⟩ tv' a.ts hh hal)
        have HRV2 := Lib.hid (fun W tv' (hh : RowAt W tv' 4 (a.ts.map Trm.cells)) => refAtomVars_any W ⟨a.rel.toArray⟩ tv' a.ts hh hal)
        have HROW := Lib.hid hrow
        have HCA := Lib.hid hca
        have HBT := Lib.hid bt
        have HBW := Lib.hid bw
        have HAL := Lib.hid hal
        have HZ := Lib.hid hz
        have hvb : (atomVars a.ts).length ≤ 8796093022208 := by omega
        have HVB := Lib.hid hvb
        generalize atomVars a.ts = U at *
        clear hca hrow ha bt bw hz hr0 hvl hvb
        go_wp2_with fail
        go_region_law (first
          | (go_simp; go_at_call 25; refine HCA.out.mono ?_; rintro e w1 ⟨tv1, rfl, ho1, hb1⟩; obtain ⟨t1a, t1c, rfl⟩ := own_sl ho1; have xb := HBT.out.below hb1 (by omega); have z0 := xb.cell 0; have z1 := xb.cell 1; have zl := xb.lt; simp only [List.getElem?_toArray, List.getElem?_cons_zero, List.getElem?_cons_succ] at z0 z1; have HX1 := Lib.hid xb; have HT1 := Lib.hid (ownTrm ho1 HAL.out); have HB1 := Lib.hid (HBW.out.trans (hb1.mono (by have := BW.out.size; omega))); have HR1 := Lib.hid ((HROW.out.keep (balloc (Below.refl _ _) _)).keep (show Below (wr.alloc (.cells #[.string ⟨a.rel.toArray⟩, .slice ta a.ts.length tc] 39)).heap.size (wr.alloc (.cells #[.string ⟨a.rel.toArray⟩, .slice ta a.ts.length tc] 39)) w1 from (bdrew (Below.refl _ _)).trans (HZ.out.symm ▸ hb1))); clear xb ho1 hb1)
          | (go_simp; go_at_call 24; refine (HAV.out _ _ HT1.out).mono ?_; rintro e w2 ⟨v2, rfl, ho2, hb2⟩; obtain ⟨v2a, v2c, rfl⟩ := own_sl (show World.ownsRow _ _ _ _ _ _ _ from ho2); have xb := HX1.out.below hb2 HX1.out.lt; have q0 := xb.cell 0; have q1 := xb.cell 1; have ql := xb.lt; simp only [List.getElem?_toArray, List.getElem?_cons_zero, List.getElem?_cons_succ] at q0 q1; have HS2 := Lib.hid (ho2.strs HVB.out); have HR2 := Lib.hid (HR1.out.keep hb2); have HB2 := Lib.hid (HB1.out.trans (hb2.mono HB1.out.size)); clear xb ho2 hb2)
          | (go_simp; go_at_call 26; refine (HRV2.out _ _ HR2.out).mono ?_; rintro e w3 ⟨v3, rfl, ho3, hb3⟩; obtain ⟨v3a, v3c, rfl⟩ := own_sl (show World.ownsRow _ _ _ _ _ _ _ from ho3); have HS3 := Lib.hid (HS2.out.keep hb3); have HT3 := Lib.hid (ho3.strs HVB.out); have HB3 := Lib.hid (HB2.out.trans (hb3.mono HB2.out.size)); clear ho3 hb3)
          | (go_simp; go_at_call 20; refine (sameTexts_any _ _ _ _ _ HS3.out HT3.out).mono ?_; rintro e w4 ⟨rfl, hb4⟩; have hdt : decide (U = U) = true := decide_eq_true rfl; have HB4 := Lib.hid (HB3.out.trans (hb4.mono HB3.out.size)); clear hb4))
        all_goals
          go_wp2_with fail
          go_roundw
          case rel => exact ⟨k + 1, by omega, by go_num, HB4⟩
          case measure => simp [intOf]; omega
      · obtain rfl : k = n := by omega
        have HAW := Lib.hid (awake09 wr (HG.out.below BW.out))
        go_wp2_with fail
        refine HAW.out.mono ?_
        rintro e w9 ⟨rfl, hb9⟩
        have HB9 := Lib.hid (BW.out.trans (hb9.mono BW.out.size))
        clear hb9
        go_wp2_with fail
        go_ret
        exact ⟨rfl, HB9.out⟩
theorem vars_card (name : ByteArray) (hv av : Value) (w : World) {hd : List (List UInt8)} {al : List Atm} (h1 : StrsAt w hv hd) (h2 : AtomsAt w av al) (hn : al.length ≤ 1048576) (hs : tsum al ≤ 1048576) (_ : hd.length ≤ 1048576) (_ : ∀ a ∈ al, ∀ u ∈ a.ts, -9223372036854775808 ≤ u.n ∧ u.n ≤ 9223372036854775807) (hg : Glob w) :
    Calls Tryd.prog 4 #[.agg #[.string name, hv, av]] w fun e w' => e = .returned (.bool true) ∧ Below w.heap.size w w' := vars_law w name hv av hd al h1 h2 hn hs hg
end Go.Proofs.YtbehonaegfpmoaaDoor
