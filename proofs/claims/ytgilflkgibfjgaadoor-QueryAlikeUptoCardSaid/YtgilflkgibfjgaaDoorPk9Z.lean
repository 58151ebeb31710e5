/- QueryAlike, walked. -/
import Derived.Test.YtgilflkgibfjgaaDoorPk0Z
import Derived.Test.YtgilflkgibfjgaaDoorPp9Z
import Derived.Test.YtgilflkgibfjgaaDoorRwsZ
import Derived.Test.YtgilflkgibfjgaaDoorFsZ
import Derived.Test.YtgilflkgibfjgaaDoorGz
import Derived.Deep.RegionLaw
import Derived.BigQuiet
namespace Go.Proofs.YtgilflkgibfjgaaDoor
open Go.RowKit
set_option linter.unusedVariables false

set_option maxHeartbeats 16000000 in
set_option maxRecDepth 100000 in
theorem alike_card (name : ByteArray) (hv av v1 : Value) (w : World) {hd : List (List UInt8)} {al : List Atm} (h : UptoQ w name hv av hd al) {rws : List (List Vl)} (hr : RowsAt w v1 rws) (hrn : rws.length ≤ 5864062014805) (hg : Glob w) :
    Calls Tryd.prog 4 #[.agg #[.string name, hv, av], v1] w fun e w' => e = .returned (.bool true) ∧ Below w.heap.size w w' := by
  have hb0 : Below w.heap.size w (w.alloc (.cells #[.string name, hv, av] 25)) := balloc (Below.refl _ _) _
  have hq0 := Blk.new w 25 #[.string name, hv, av]
  obtain ⟨n, hn⟩ : ∃ n, hd.length = n := ⟨_, rfl⟩
  obtain ⟨na, hna⟩ : ∃ na, al.length = na := ⟨_, rfl⟩
  have hbd : Bnd hd al n na := ⟨hn, hna, by have := h.alen; omega, by have := h.hlen; omega, h.tlen, h.heads, fun x hx t ht => ((h.each x hx).2 t ht).2, h.atoms.small⟩
  have hsl := hbd.seen name.data.toList
  have htw : plainQ (plainQ ⟨name.data.toList, hd, al⟩) = plainQ ⟨name.data.toList, hd, al⟩ := plain_twice (by omega)
  have hin : ∀ s ∈ hd, s ∈ seenQ ⟨name.data.toList, hd, al⟩ := fun s hs => head_seen hs
  have hiv : ∀ a ∈ al, ∀ t ∈ a.ts, t.x ≠ [] → t.x ∈ seenQ ⟨name.data.toList, hd, al⟩ := fun a ha t ht hx => var_seen ha ht hx
  obtain ⟨S, hS⟩ : ∃ S, seenQ ⟨name.data.toList, hd, al⟩ = S := ⟨_, rfl⟩
  have hpq : plainQ ⟨name.data.toList, hd, al⟩ = ⟨name.data.toList, hd.map (vNo S), al.map (pAt S)⟩ := by rw [← hS]; rfl
  rw [hpq] at htw
  rw [hS] at hsl hin hiv
  have hpb := hbd.plain hsl
  have HCP := Lib.hid (copyF (w.alloc (.cells #[.string name, hv, av] 25)) name hv av hd al hn hna hbd.hs (h.head.keep hb0) (h.atoms.keep hb0))
  have HPL := Lib.hid (fun W a b (h1 : StrsAt W a hd) (h2 : AtomsAt W b al) (hgW : Glob W) => plainF W name a b hbd hpq h1 h2 hgW)
  have HCP2 := Lib.hid (fun W a b (h1 : StrsAt W a (hd.map (vNo S))) (h2 : AtomsAt W b (al.map (pAt S))) => copyF W name a b _ _ hpb.hn hpb.hm hpb.hs h1 h2)
  have HPL2 := Lib.hid (fun W a b (h1 : StrsAt W a (hd.map (vNo S))) (h2 : AtomsAt W b (al.map (pAt S))) (hgW : Glob W) => plainF W name a b hpb htw h1 h2 hgW)
  have hs1 := hbd.hs
  have hs2 := hbd.hh
  have HMT := Lib.hid (fun (a : Atm) (ha : a ∈ al) (r : List Vl) => matchR_plain (L := S) (ts := a.ts) (by omega) (hiv a ha) r)
  have HNE := Lib.hid (fun (s t : List UInt8) (hs : s ∈ hd) (ht : t ∈ hd) => alike_ne (L := S) hsl (hin s hs) (hin t ht))
  have HSM := Lib.hid hbd.z3
  obtain ⟨ha, hc, rfl, _, _⟩ := h.head.form
  obtain ⟨aa, ac, rfl, _, _⟩ := h.atoms.form
  obtain ⟨ra, rc, rfl, _, hrm⟩ := hr.form
  have hrl := h.head
  have hal := h.atoms
  rw [hn] at hrl
  rw [hna] at hal
  unfold maxLen at hrm
  have HS0 := Lib.hid hrl
  have HA0 := Lib.hid hal
  have HQ0 := Lib.hid hq0
  have HB0 := Lib.hid hb0
  have HG := Lib.hid hg
  have HR0 := Lib.hid hr
  rw [hn, hna] at HQ0 HCP HB0
  rw [hn, hna]
  have HN := Lib.hid hn
  have HM := Lib.hid hna
  clear h hq0 hb0 hg hbd hsl htw hin hiv hpq hpb hrl hal hr hS hn hna
  generalize hK : rws.length = m at *
  have HK := Lib.hid hK
  clear hK
  go_enter Tryd.func4, Tryd.ntmps4
  go_wp2_with fail
  refine HCP.out.mono ?_
  rintro e w1 ⟨ia, ic, ja, jc, rfl, hs1', ha1, hb1⟩
  have hb1' := HB0.out.trans (hb1.mono HB0.out.size)
  have HP1 := Lib.hid (HPL.out w1 _ _ hs1' ha1 (HG.out.below hb1'))
  have HB1 := Lib.hid hb1'
  have HQ1 := Lib.hid (HQ0.out.below hb1 HQ0.out.lt)
  clear hs1' ha1 hb1 hb1' HCP
  go_wp2_with fail
  refine HP1.out.mono ?_
  rintro e w2 ⟨pa, pc, pb, pd, rfl, hs2', ha2, hb2⟩
  have hb2' := HB1.out.trans (hb2.mono HB1.out.size)
  have hbn : Below w2.heap.size w2 (w2.alloc (.cells #[.string name, .slice pa n pc, .slice pb na pd] 25)) := balloc (Below.refl _ _) _
  have hqn := (HQ1.out.below hb2 HQ1.out.lt).alloc (.cells #[.string name, .slice pa n pc, .slice pb na pd] 25)
  have hpn := Blk.new w2 25 #[.string name, .slice pa n pc, .slice pb na pd]
  obtain ⟨W2, hW2⟩ : ∃ W2, w2.alloc (.cells #[.string name, .slice pa n pc, .slice pb na pd] 25) = W2 := ⟨_, rfl⟩
  rw [hW2] at hbn hqn hpn
  have hbw := hb2'.trans (hbn.mono hb2'.size)
  have HPS := Lib.hid (hs2'.keep hbn)
  have HPA := Lib.hid (ha2.keep hbn)
  have HQ2 := Lib.hid hqn
  have HP2 := Lib.hid hpn
  have HB2 := Lib.hid hbw
  have HW2 := Lib.hid hW2
  have HGK := Lib.hid (fun W (hW : Below W2.heap.size W2 W) => HG.out.below (hbw.trans (hW.mono hbw.size)))
  have HUS := Lib.hid (HS0.out.keep hbw)
  have HUA := Lib.hid (HA0.out.keep hbw)
  have HUR := Lib.hid (HR0.out.keep hbw)
  obtain ⟨x0, x1, x2, y0, y1, y2, xl, yl⟩ := boxes2 hqn hpn (Below.refl _ _)
  clear hbn hqn hpn hW2 hbw hs2' ha2 hb2 hb2' HP1 HQ0 HQ1 HB0 HS0 HA0 HR0
  have dn : (n == n) = true := by simp
  have dna : (na == na) = true := by simp
  go_upto_region 2 with fail
  rw [HW2.out]
  go_cut [51] from 21 to 50 (fun s51 wx => s51 = .bool false ∧ Hid (Below W2.heap.size W2 wx))
  case first =>
    go_region_law (first
      | (go_simp; go_at_call 13; refine (HCP2.out _ _ _ (HPS.out.keep (bdrew (Below.refl _ _))) (HPA.out.keep (bdrew (Below.refl _ _)))).mono ?_; rintro e w3 ⟨ka, kc, kb, kd, rfl, hs3, ha3, hb3⟩; have B3 : Below W2.heap.size W2 w3 := bt2 (bdrew (Below.refl _ _)) hb3; obtain ⟨x03, x13, x23, y03, y13, y23, xl3, yl3⟩ := boxes2 HQ2.out HP2.out B3; have HP3 := Lib.hid (HPL2.out w3 _ _ hs3 ha3 (HGK.out _ B3)); have HB3 := Lib.hid B3; clear B3 hb3 hs3 ha3)
      | (go_simp; go_at_call 16; refine HP3.out.mono ?_; rintro e w4 ⟨la, lc, lb, ld, rfl, hs4, ha4, hb4⟩; have B4 : Below W2.heap.size W2 w4 := bt2 HB3.out hb4; obtain ⟨x04, x14, x24, y04, y14, y24, xl4, yl4⟩ := boxes2 HQ2.out HP2.out B4; have HSA := Lib.hid (same_any w4 name _ _ _ _ _ _ hs4 (HPS.out.keep B4) ha4 (HPA.out.keep B4)); have HB4 := Lib.hid B4; clear B4 hb4 hs4 ha4)
      | (go_simp; go_at_call 15; (with_reducible refine HSA.out.mono ?_); rintro e w5 ⟨rfl, hb5⟩; have B5 : Below W2.heap.size W2 w5 := bt2 HB4.out hb5; obtain ⟨x05, x15, x25, y05, y15, y25, xl5, yl5⟩ := boxes2 HQ2.out HP2.out B5; have HB5 := Lib.hid B5; clear B5 hb5))
    all_goals
      go_wp2_with fail
      go_meet
      exact ⟨by first | rfl | simp, HB5⟩
  case rest =>
    obtain ⟨rfl, HBR⟩ := hcut
    obtain ⟨x03, x13, x23, y03, y13, y23, xl3, yl3⟩ := boxes2 HQ2.out HP2.out HBR.out
    clear x0 x1 x2 y0 y1 y2 xl yl
    go_wp2_with fail
    go_loopw [55] (fun i wr => ∃ k : Nat, k ≤ na ∧ i = .int .i64 k ∧ Hid (Below W2.heap.size W2 wr)) (fun i _ => na - (intOf i).toNat)
    case atStart => exact ⟨0, Nat.zero_le _, rfl, HBR⟩
    case round =>
      obtain ⟨k, hk, rfl, HBW⟩ := hrel
      obtain ⟨wo, rfl⟩ : ∃ wo : World, wo = wr := ⟨_, rfl⟩
      obtain ⟨x04, x14, x24, y04, y14, y24, xl4, yl4⟩ := boxes2 HQ2.out HP2.out HBW.out
      clear x03 x13 x23 y03 y13 y23 xl3 yl3
      by_cases hlt : k < na
      · obtain ⟨a, hak⟩ : ∃ a, al[k]? = some a := ⟨al[k]'(by rw [HM.out]; exact hlt), List.getElem?_eq_getElem (by rw [HM.out]; exact hlt)⟩
        have ham := List.mem_of_getElem? hak
        have hmt := HMT.out a ham
        have hal := HSM.out a ham
        have h3 := HUA.out.keep HBW.out
        obtain ⟨b, off, cap, tv, hv1, _, _, hbl, g0, g1, htr, _⟩ := h3.get hak
        rw [HM.out] at hv1
        simp only [Value.slice.injEq, true_and] at hv1
        obtain ⟨rfl, rfl⟩ := hv1
        obtain ⟨ta, tc, rfl, _, _⟩ := htr.form
        simp only [List.length_map] at g1 htr
        have hd1 : decide ((k : Int) < 0) = false := by simp
        have hd2 : decide ((na : Int) ≤ (k : Int)) = false := by simp; omega
        have bx := Blk.new wo 33 #[.string ⟨a.rel.toArray⟩, .slice ta a.ts.length tc]
        have hbx : Below wo.heap.size wo (wo.alloc (.cells #[.string ⟨a.rel.toArray⟩, .slice ta a.ts.length tc] 33)) := balloc (Below.refl _ _) _
        obtain ⟨Wa, hWa⟩ : ∃ Wa, wo.alloc (.cells #[.string ⟨a.rel.toArray⟩, .slice ta a.ts.length tc] 33) = Wa := ⟨_, rfl⟩
        rw [hWa] at bx hbx
        have HWA := Lib.hid hWa
        have HTR := Lib.hid (htr.keep hbx)
        have HBX := Lib.hid bx
        have HBWa := Lib.hid (bt2 HBW.out hbx)
        have HAK := Lib.hid hak
        have HMO := Lib.hid (fun (r : List Vl) (W : World) (x y : Value) (hx : RowAt W x 4 ((a.ts.map (pTm S)).map Trm.cells)) (hy : RowAt W y 3 (r.map Vl.cells)) (hrl : r.length ≤ 4398046511104) => matchO_any W ⟨a.rel.toArray⟩ x y (a.ts.map (pTm S)) r hx hy (by rw [List.length_map]; exact hal) hrl)
        have HMT2 := Lib.hid hmt
        have HAL := Lib.hid hal
        clear h3 htr hak hmt ham hbx bx hWa hal
        go_upto_region 7 with fail
        rw [HWA.out]
        go_wp2_with fail
        go_loopw [62] (fun i wr => ∃ j : Nat, j ≤ m ∧ i = .int .i64 j ∧ Hid (Below Wa.heap.size Wa wr)) (fun i _ => m - (intOf i).toNat)
        case atStart => exact ⟨0, Nat.zero_le _, rfl, Lib.hid (Below.refl _ _)⟩
        case round =>
          obtain ⟨j, hj, rfl, HBI⟩ := hrel
          obtain ⟨wi, rfl⟩ : ∃ wi : World, wi = wr := ⟨_, rfl⟩
          by_cases hjl : j < m
          · obtain ⟨r, hrj⟩ : ∃ r, rws[j]? = some r := ⟨rws[j]'(by rw [HK.out]; exact hjl), List.getElem?_eq_getElem (by rw [HK.out]; exact hjl)⟩
            have bxi := HBX.out.below HBI.out HBX.out.lt
            have z0 := bxi.cell 0
            have z1 := bxi.cell 1
            have zl := bxi.lt
            simp only [List.getElem?_toArray, List.getElem?_cons_zero, List.getElem?_cons_succ] at z0 z1
            have hbi : Below W2.heap.size W2 wi := bt2 HBWa.out HBI.out
            have h4 := HUR.out.keep hbi
            obtain ⟨rb, roff, rcap, rv, hv2, _, _, hrbl, q0, hrr, hrn2⟩ := h4.get hrj
            rw [HK.out] at hv2
            simp only [Value.slice.injEq, true_and] at hv2
            obtain ⟨rfl, rfl⟩ := hv2
            obtain ⟨rra, rrc, rfl, _, _⟩ := hrr.form
            simp only [List.length_map, Nat.mul_one] at q0 hrr
            have he1 : decide ((j : Int) < 0) = false := by simp
            have he2 : decide ((m : Int) ≤ (j : Int)) = false := by simp; omega
            have hmr := HMT2.out r
            have hmo := HMO.out r
            rw [hmr] at hmo
            have HMP := Lib.hid hmo
            have HRR := Lib.hid hrr
            have HBII := Lib.hid hbi
            have HCA := Lib.hid (copyAtom_any wi ⟨a.rel.toArray⟩ (.slice ta a.ts.length tc) a.ts (HTR.out.keep HBI.out) HAL.out)
            clear bxi h4 hrj hmr hmo hrr hbi
            go_wp2_with fail
            refine HCA.out.mono ?_
            rintro e w5 ⟨v5, rfl, ho5, hb5⟩
            have t5 := ownTrm ho5 HAL.out
            obtain ⟨a5, c5, rfl⟩ := own_sl ho5
            have HT5 := Lib.hid t5
            have HB5 := Lib.hid hb5
            have HC5 := Lib.hid (copyRow_any w5 _ r (HRR.out.keep hb5) hrn2)
            clear t5 hb5 ho5 HCA
            go_wp2_with fail
            refine HC5.out.mono ?_
            rintro e w6 ⟨v6, rfl, ho6, hb6⟩
            have t6 := ownVl ho6 hrn2
            obtain ⟨a6, c6, rfl⟩ := own_sl ho6
            have HB6 := Lib.hid (bt2 HB5.out hb6)
            have HC6 := Lib.hid (matchO_any w6 ⟨a.rel.toArray⟩ _ _ a.ts r (HT5.out.keep hb6) t6 HAL.out hrn2)
            clear t6 hb6 ho6 HC5 HT5 HB5
            generalize matchR a.ts r = MR at *
            go_wp2_with fail
            refine HC6.out.mono ?_
            rintro e w7 ⟨a7, n7, c7, rfl, hx7, hb7⟩
            have hb7' := bt2 HB6.out hb7
            have hbp7 := bt2 HBII.out hb7'
            have HX7 := Lib.hid hx7
            obtain ⟨x07, x17, x27, y07, y17, y27, xl7, yl7⟩ := boxes2 HQ2.out HP2.out hbp7
            have h5 := HPA.out.keep hbp7
            obtain ⟨b7, off7, cap7, tv7, hv7, _, _, hbl7, g07, g17, htr7, hal7⟩ := h5.get (show (al.map (pAt S))[k]? = some (pAt S a) by rw [List.getElem?_map, HAK.out]; rfl)
            rw [List.length_map, HM.out] at hv7
            simp only [Value.slice.injEq, true_and] at hv7
            obtain ⟨rfl, rfl⟩ := hv7
            obtain ⟨ta7, tc7, rfl, _, _⟩ := htr7.form
            have hrel7 : (pAt S a).rel = a.rel := rfl
            have hts7 : (pAt S a).ts = a.ts.map (pTm S) := rfl
            rw [hrel7] at g07
            rw [hts7] at htr7 g17 hal7
            simp only [List.length_map] at g17 htr7
            have HCA7 := Lib.hid (copyAtom_any w7 ⟨a.rel.toArray⟩ _ (a.ts.map (pTm S)) htr7 hal7)
            have HB7 := Lib.hid hb7'
            clear hx7 hb7 hb7' hbp7 h5 htr7 hrel7 hts7 HC6 HB6
            go_wp2_with fail
            refine HCA7.out.mono ?_
            rintro e w8 ⟨v8, rfl, ho8, hb8⟩
            have t8 := ownTrm ho8 hal7
            obtain ⟨a8, c8, rfl⟩ := own_sl ho8
            rw [List.length_map] at t8
            have HT8 := Lib.hid t8
            have hb8' := bt2 HB7.out hb8
            have HX8 := Lib.hid (HX7.out.keep hb8)
            have HC8 := Lib.hid (copyRow_any w8 _ r (HRR.out.keep hb8') hrn2)
            have HB8 := Lib.hid hb8'
            clear t8 ho8 hb8 hb8' HCA7 HB7 HX7
            go_wp2_with fail
            refine HC8.out.mono ?_
            rintro e w9 ⟨v9, rfl, ho9, hb9⟩
            have t9 := ownVl ho9 hrn2
            obtain ⟨a9, c9, rfl⟩ := own_sl ho9
            have HC9 := Lib.hid (HMP.out w9 _ _ (HT8.out.keep hb9) t9 hrn2)
            have HX9 := Lib.hid (HX8.out.keep hb9)
            have HB9 := Lib.hid (bt2 HB8.out hb9)
            clear t9 ho9 hb9 HC8 HB8 HX8 HT8
            go_wp2_with fail
            refine HC9.out.mono ?_
            rintro e wA ⟨aA, nA, cA, rfl, hxA, hbA⟩
            have HCA9 := Lib.hid (sameRow_any wA _ _ _ _ (HX9.out.keep hbA) hxA)
            have HBA := Lib.hid (bt2 HB9.out hbA)
            have hself : (MR.isSome == MR.isSome) = true := by simp
            have hselfn : (MR.isSome != MR.isSome) = false := by simp
            clear hxA hbA HC9 HB9 HX9
            go_wp2_with fail
            refine HCA9.out.mono ?_
            rintro e wB ⟨rfl, hbB⟩
            have hsv : sameV (MR.getD []) (MR.getD []) = true := decide_eq_true rfl
            rw [hsv]
            have HBB := Lib.hid (bt2 HBA.out hbB)
            clear hbB
            go_wp2_with fail
            go_roundw
            case rel => exact ⟨j + 1, by omega, by go_num, Lib.hid (bt2 HBI.out HBB.out)⟩
            case measure => simp [intOf]; omega
          · obtain rfl : j = m := by omega
            go_wp2_with fail
            go_roundw
            case rel => exact ⟨k + 1, by omega, by go_num, Lib.hid (bt2 HBWa.out HBI.out)⟩
            case measure => simp [intOf]; omega
      · obtain rfl : k = na := by omega
        go_wp2_with fail
        go_loopw [100] (fun i wr => ∃ j : Nat, j ≤ n ∧ i = .int .i64 j ∧ Hid (Below W2.heap.size W2 wr)) (fun i _ => n - (intOf i).toNat)
        case atStart => exact ⟨0, Nat.zero_le _, rfl, HBW⟩
        case round =>
          obtain ⟨i, hi, rfl, HBH⟩ := hrel
          obtain ⟨wi, rfl⟩ : ∃ wi : World, wi = wr := ⟨_, rfl⟩
          obtain ⟨x05, x15, x25, y05, y15, y25, xl5, yl5⟩ := boxes2 HQ2.out HP2.out HBH.out
          clear x04 x14 x24 y04 y14 y24 xl4 yl4
          by_cases hil : i < n
          · obtain ⟨s, hsi⟩ : ∃ s, hd[i]? = some s := ⟨hd[i]'(by rw [HN.out]; exact hil), List.getElem?_eq_getElem (by rw [HN.out]; exact hil)⟩
            obtain ⟨b, off, cap, hv1, _, _, hbl, g0⟩ := (HUS.out.keep HBH.out).get hsi
            rw [HN.out] at hv1
            simp only [Value.slice.injEq, true_and] at hv1
            obtain ⟨rfl, rfl⟩ := hv1
            have hd1 : decide ((i : Int) < 0) = false := by simp
            have hd2 : decide ((n : Int) ≤ (i : Int)) = false := by simp; omega
            have HSI := Lib.hid hsi
            clear hsi
            go_wp2_with fail
            go_loopw [108] (fun i wr => ∃ j : Nat, j ≤ n ∧ i = .int .i64 j ∧ Hid (Below W2.heap.size W2 wr)) (fun i _ => n - (intOf i).toNat)
            case atStart => exact ⟨0, Nat.zero_le _, rfl, HBH⟩
            case round =>
              obtain ⟨j, hj, rfl, HBJ⟩ := hrel
              obtain ⟨wj, rfl⟩ : ∃ wj : World, wj = wr := ⟨_, rfl⟩
              obtain ⟨x06, x16, x26, y06, y16, y26, xl6, yl6⟩ := boxes2 HQ2.out HP2.out HBJ.out
              clear x05 x15 x25 y05 y15 y25 xl5 yl5
              by_cases hjl : j < n
              · obtain ⟨t, htj⟩ : ∃ t, hd[j]? = some t := ⟨hd[j]'(by rw [HN.out]; exact hjl), List.getElem?_eq_getElem (by rw [HN.out]; exact hjl)⟩
                obtain ⟨b2, off2, cap2, hv2, _, _, hbl2, q0⟩ := (HUS.out.keep HBJ.out).get htj
                rw [HN.out] at hv2
                simp only [Value.slice.injEq, Option.some.injEq, Addr.mk.injEq, and_true, true_and] at hv2
                obtain ⟨⟨rfl, rfl⟩, rfl⟩ := hv2
                obtain ⟨b3, off3, cap3, hv3, _, _, hbl3, r0⟩ := (HPS.out.keep HBJ.out).get (show (hd.map (vNo S))[i]? = some (vNo S s) by rw [List.getElem?_map, HSI.out]; rfl)
                obtain ⟨b4, off4, cap4, hv4, _, _, hbl4, s0⟩ := (HPS.out.keep HBJ.out).get (show (hd.map (vNo S))[j]? = some (vNo S t) by rw [List.getElem?_map, htj]; rfl)
                rw [List.length_map, HN.out] at hv3 hv4
                simp only [Value.slice.injEq, true_and] at hv3
                obtain ⟨rfl, rfl⟩ := hv3
                simp only [Value.slice.injEq, Option.some.injEq, Addr.mk.injEq, and_true, true_and] at hv4
                obtain ⟨⟨rfl, rfl⟩, rfl⟩ := hv4
                have hd3 : decide ((j : Int) < 0) = false := by simp
                have hd4 : decide ((n : Int) ≤ (j : Int)) = false := by simp; omega
                have hne := HNE.out s t (List.mem_of_getElem? HSI.out) (List.mem_of_getElem? htj)
                clear htj
                by_cases hst : s = t
                · subst hst
                  clear hne
                  go_wp2_with fail
                  go_quiet (fail)
                  go_wp2_with fail
                  go_roundw
                  case rel => exact ⟨j + 1, by omega, by go_num, Lib.hid (bdrewN HBJ.out _)⟩
                  case measure => simp [intOf]; omega
                · have hq1 : ¬ ((⟨s.toArray⟩ : ByteArray) = ⟨t.toArray⟩) := fun e => hst (bytes_eq.1 e)
                  have hq2 : ¬ ((⟨(vNo S s).toArray⟩ : ByteArray) = ⟨(vNo S t).toArray⟩) := fun e => hst (hne.1 (bytes_eq.1 e))
                  have hq3 : (s == t) = false := by simpa using hst
                  have hq4 : (vNo S s == vNo S t) = false := by simpa using fun e => hst (hne.1 e)
                  clear hne
                  go_wp2_with fail
                  go_quiet (fail)
                  go_wp2_with fail
                  go_roundw
                  case rel => exact ⟨j + 1, by omega, by go_num, Lib.hid (bdrewN HBJ.out _)⟩
                  case measure => simp [intOf]; omega
              · obtain rfl : j = n := by omega
                go_wp2_with fail
                go_roundw
                case rel => exact ⟨i + 1, by omega, by go_num, HBJ⟩
                case measure => simp [intOf]; omega
          · obtain rfl : i = n := by omega
            have HAW := Lib.hid (awake09 wi (HGK.out _ HBH.out))
            go_wp2_with fail
            refine HAW.out.mono ?_
            rintro e wz ⟨rfl, hbz⟩
            have HBZ := Lib.hid (HB2.out.trans ((bt2 HBH.out hbz).mono HB2.out.size))
            clear hbz
            go_wp2_with fail
            go_ret
            exact ⟨rfl, HBZ.out⟩
end Go.Proofs.YtgilflkgibfjgaaDoor
