/- ChangeBack, walked. -/
import Derived.Test.YtgilflkgibfjgaaDoorBe
namespace Go.Proofs.YtgilflkgibfjgaaDoor
open Go.RowKit
set_option linter.unusedVariables false

set_option maxHeartbeats 8000000 in
set_option maxRecDepth 100000 in
theorem cback_card (v : Value) (w : World) {l : List Chg} (h : ChgsAt w v l) (hr : RangeB l) (hz : ∀ c ∈ l, c.rel.length ≤ 140737488351232) (hn : l.length ≤ 1048576) (hg : Glob w) :
    Calls Tryd.prog 7 #[v] w fun e w' => e = .returned (.bool true) ∧ Below w.heap.size w w' := by
  have hs : ∀ c ∈ l, c.rel.length ≤ 140737488355328 := fun c hc => by have := hz c hc; omega
  have hcp := fun W (hW : Below w.heap.size w W) => copyB_any W v l (h.keep hW) (by omega)
  have hsh := fun W u (hW : Glob W) (hu : ChgsAt W u l) => chgShow_any W u l hu hr hs (joinB_small hr hn) hW
  have hrl := h.rows
  have hss : (⟨(showBt l).toArray⟩ : ByteArray).data.toList = showBt l := by simp
  have hsz : (⟨(showBt l).toArray⟩ : ByteArray).size = (showBt l).length := by simp [ByteArray.size]
  have hsl : (showBt l).length ≤ 140737488355328 := by
    unfold showBt
    split
    · exact joinB_small hr hn (by assumption)
    · exact Nat.zero_le _
  have hno : l.all goodC = false → showBt l = [] := fun ha => by
    unfold showBt
    rw [if_neg (by rw [ha]; decide)]
  have hyes : l.all goodC = true → showBt l = Lib.join (l.map chgT) [44, 32] := fun ha => by
    unfold showBt
    rw [if_pos ha]
  have hpar := fun W (hW : Glob W) => batch_any ⟨(showBt l).toArray⟩ W (by omega) hW
  rw [hss] at hpar
  have hlong : 16384 < (showBt l).length → ∃ p, parseB (showBt l) = .bad p 70 := fun hl => parseB_long hl
  have hmany : l.all goodC = true → (showBt l).length ≤ 16384 → 256 < l.length → ∃ p, parseB (showBt l) = .bad p 100 := fun ha hl hm => by
    rw [hyes ha] at hl ⊢
    exact parseB_many (fun c hc => List.all_eq_true.1 ha c hc) hr hl hm
  have hfew : l.all goodC = true → (showBt l).length ≤ 16384 → l.length ≤ 256 → parseB (showBt l) = .ok l [] := fun ha hl hm => by
    rw [hyes ha] at hl ⊢
    exact parseB_few (fun c hc => List.all_eq_true.1 ha c hc) hr hl hm
  obtain ⟨ba, bc, rfl, _, _⟩ := h.form
  have HB := Lib.hid h
  have HCP := Lib.hid hcp
  have HSH := Lib.hid hsh
  have HG := Lib.hid hg
  have HRL := Lib.hid hrl
  have HZ := Lib.hid hz
  have HNO := Lib.hid hno
  have HPAR := Lib.hid hpar
  have HLONG := Lib.hid hlong
  have HMANY := Lib.hid hmany
  have HFEW := Lib.hid hfew
  clear h hcp hsh hg hr hz hs hrl hss hno hyes hpar hlong hmany hfew
  generalize showBt l = S at *
  generalize hN : l.length = n at *
  have HN := Lib.hid hN
  clear hN
  go_enter Tryd.func7, Tryd.ntmps7
  go_wp2_with fail
  go_loopw [3, 12] (fun gv i wr => ∃ (k : Nat) (gd : Bool), k ≤ n ∧ gv = .bool gd ∧ i = .int .i64 k ∧ Hid (gd = (l.take k).all goodC) ∧ Hid (Below w.heap.size w wr)) (fun _ i _ => n - (intOf i).toNat)
  case atStart => exact ⟨0, true, Nat.zero_le _, rfl, rfl, Lib.hid (by simp), Lib.hid (Below.refl _ _)⟩
  case round =>
    obtain ⟨k, gd, hk, rfl, rfl, HP, BW⟩ := hrel
    by_cases hlt : k < n
    · obtain ⟨c, hc⟩ : ∃ c, l[k]? = some c := ⟨l[k]'(by rw [HN.out]; exact hlt), List.getElem?_eq_getElem (by rw [HN.out]; exact hlt)⟩
      obtain ⟨b1, o1, c1, rv, hv1, _, _, hl1, q0, q1, q2, hr1, _⟩ := (HB.out.keep BW.out).get hc
      rw [HN.out] at hv1
      simp only [Value.slice.injEq, true_and] at hv1
      obtain ⟨rfl, rfl⟩ := hv1
      obtain ⟨ra, rc, rfl, _, _⟩ := hr1.form
      have hdk : decide ((k : Int) < 0) = false := by simp
      have hdn : decide ((n : Int) ≤ (k : Int)) = false := by simp; omega
      have hst := take_all_succ goodC hc
      rw [← HP.out] at hst
      have HST := Lib.hid hst
      have hgc : goodC c = (isNameB c.rel && rowB c.row) := rfl
      have HGC := Lib.hid hgc
      have bk : Below wr.heap.size wr (wr.alloc (.cells #[.bool c.add, .string ⟨c.rel.toArray⟩, .slice ra (c.row.map Vl.cells).length rc] 56)) := balloc (Below.refl _ _) _
      have hnm := refName_any ⟨c.rel.toArray⟩ (wr.alloc (.cells #[.bool c.add, .string ⟨c.rel.toArray⟩, .slice ra (c.row.map Vl.cells).length rc] 56)) (by
        have := HZ.out c (List.mem_of_getElem? hc)
        have e : (⟨c.rel.toArray⟩ : ByteArray).size = c.rel.length := by simp [ByteArray.size]
        omega)
      rw [show (⟨c.rel.toArray⟩ : ByteArray).data.toList = c.rel by simp] at hnm
      have hvl := refRowValid_any (wr.alloc (.cells #[.bool c.add, .string ⟨c.rel.toArray⟩, .slice ra (c.row.map Vl.cells).length rc] 56)) _ c.row (hr1.keep bk)
      have HNM := Lib.hid hnm
      have HVL := Lib.hid hvl
      have HBK := Lib.hid (BW.out.trans (bk.mono BW.out.size))
      clear hst hgc bk hnm hvl hr1 hc
      generalize (c.row.map Vl.cells).length = rn at *
      cases gd with
      | false =>
        go_wp2_with fail
        go_roundw
        case rel => exact ⟨k + 1, false, by omega, rfl, by go_num, Lib.hid (by rw [HST.out]; rfl), HBK⟩
        case measure => simp [intOf]; omega
      | true =>
        cases hnb : isNameB c.rel with
        | false =>
          rw [hnb] at HNM
          go_wp2_with fail
          refine HNM.out.mono ?_
          rintro e w6 ⟨rfl, rfl⟩
          go_wp2_with fail
          go_roundw
          case rel => exact ⟨k + 1, false, by omega, rfl, by go_num, Lib.hid (by rw [HST.out, HGC.out, hnb]; rfl), HBK⟩
          case measure => simp [intOf]; omega
        | true =>
          rw [hnb] at HNM
          cases hrb : rowB c.row with
          | false =>
            rw [hrb] at HVL
            go_wp2_with fail
            refine HNM.out.mono ?_
            rintro e w6 ⟨rfl, rfl⟩
            go_wp2_with fail
            refine HVL.out.mono ?_
            rintro e w7 ⟨rfl, hb7⟩
            have HB7 := Lib.hid (HBK.out.trans (hb7.mono HBK.out.size))
            clear hb7
            go_wp2_with fail
            go_roundw
            case rel => exact ⟨k + 1, false, by omega, rfl, by go_num, Lib.hid (by rw [HST.out, HGC.out, hnb, hrb]; rfl), HB7⟩
            case measure => simp [intOf]; omega
          | true =>
            rw [hrb] at HVL
            go_wp2_with fail
            refine HNM.out.mono ?_
            rintro e w6 ⟨rfl, rfl⟩
            go_wp2_with fail
            refine HVL.out.mono ?_
            rintro e w7 ⟨rfl, hb7⟩
            have HB7 := Lib.hid (HBK.out.trans (hb7.mono HBK.out.size))
            clear hb7
            go_wp2_with fail
            go_roundw
            case rel => exact ⟨k + 1, true, by omega, rfl, by go_num, Lib.hid (by rw [HST.out, HGC.out, hnb, hrb]; rfl), HB7⟩
            case measure => simp [intOf]; omega
    · obtain rfl : k = n := by omega
      have hp := HP.out
      rw [List.take_of_length_le (by rw [HN.out]; exact Nat.le_refl _)] at hp
      have HPP := Lib.hid hp
      have HC1 := Lib.hid (HCP.out wr BW.out)
      clear hp HCP
      go_wp2_with fail
      refine HC1.out.mono ?_
      rintro e w1 ⟨cv, rfl, hown, hb1⟩
      have hat := hown.at (by rw [HN.out]; omega) HRL.out
      obtain ⟨ca, cc, rfl, _, _⟩ := hat.form
      rw [HN.out] at hat
      have hbb := BW.out.trans (hb1.mono BW.out.size)
      have HS1 := Lib.hid (HSH.out w1 _ (HG.out.below hbb) hat)
      have HV1 := Lib.hid ((HB.out.keep BW.out).keep hb1)
      have HB1 := Lib.hid hbb
      rw [HN.out]
      clear hown hat hb1 hbb
      go_wp2_with fail
      refine HS1.out.mono ?_
      rintro e w2 ⟨rfl, hb2⟩
      have hbb := HB1.out.trans (hb2.mono HB1.out.size)
      have HV2 := Lib.hid (HV1.out.keep hb2)
      have HB2 := Lib.hid hbb
      have HAW2 := Lib.hid (awake10 _ (HG.out.below hbb))
      have HP2 := Lib.hid (HPAR.out w2 (HG.out.below hbb))
      clear hb2 hbb HV1 HS1
      cases gd with
      | false =>
        have hS := HNO.out HPP.out.symm
        subst hS
        go_wp2_with fail
        refine HAW2.out.mono ?_
        rintro e w3 ⟨rfl, hb3⟩
        have HB3 := Lib.hid (HB2.out.trans (hb3.mono HB2.out.size))
        clear hb3
        go_wp2_with fail
        go_ret
        exact ⟨by first | rfl | simp, HB3.out⟩
      | true =>
        by_cases hl : 16384 < S.length
        · have hd : (16384 : Int) < (S.length : Int) := by omega
          obtain ⟨p, hpp⟩ := HLONG.out hl
          rw [hpp] at HP2
          clear hpp hl
          go_wp2_with fail
          refine HP2.out.mono ?_
          rintro e w3 ⟨rfl, hb3⟩
          have hbb := HB2.out.trans (hb3.mono HB2.out.size)
          have HB3 := Lib.hid hbb
          have HAW3 := Lib.hid (awake10 _ (HG.out.below hbb))
          clear hb3 hbb
          go_wp2_with fail
          refine HAW3.out.mono ?_
          rintro e w4 ⟨rfl, hb4⟩
          have HB4 := Lib.hid (HB3.out.trans (hb4.mono HB3.out.size))
          clear hb4
          go_wp2_with fail
          go_ret
          exact ⟨by first | rfl | simp, HB4.out⟩
        · have hd : ¬ ((16384 : Int) < (S.length : Int)) := by omega
          by_cases hm : 256 < k
          · have hd2 : (256 : Int) < (k : Int) := by omega
            obtain ⟨p, hpp⟩ := HMANY.out HPP.out.symm (by omega) hm
            rw [hpp] at HP2
            clear hpp hl hm
            go_wp2_with fail
            refine HP2.out.mono ?_
            rintro e w3 ⟨rfl, hb3⟩
            have hbb := HB2.out.trans (hb3.mono HB2.out.size)
            have HB3 := Lib.hid hbb
            have HAW3 := Lib.hid (awake10 _ (HG.out.below hbb))
            clear hb3 hbb
            go_wp2_with fail
            refine HAW3.out.mono ?_
            rintro e w4 ⟨rfl, hb4⟩
            have HB4 := Lib.hid (HB3.out.trans (hb4.mono HB3.out.size))
            clear hb4
            go_wp2_with fail
            go_ret
            exact ⟨by first | rfl | simp, HB4.out⟩
          · have hd2 : ¬ ((256 : Int) < (k : Int)) := by omega
            have hpp := HFEW.out HPP.out.symm (by omega) (by omega)
            rw [hpp] at HP2
            clear hpp hl hm
            go_wp2_with fail
            refine HP2.out.mono ?_
            rintro e w3 ⟨pv, rfl, hown3, hb3⟩
            have hat3 := hown3.at (by rw [HN.out]; omega) HRL.out
            obtain ⟨pa, pc, rfl, _, _⟩ := hat3.form
            rw [HN.out] at hat3
            have hbb := HB2.out.trans (hb3.mono HB2.out.size)
            have HB3 := Lib.hid hbb
            have HV3 := Lib.hid (HV2.out.keep hb3)
            have HP3 := Lib.hid hat3
            have HAW3 := Lib.hid (awake10 _ (HG.out.below hbb))
            rw [HN.out]
            clear hown3 hat3 hb3 hbb
            go_wp2_with fail
            refine HAW3.out.mono ?_
            rintro e w4 ⟨rfl, hb4⟩
            have HSM := Lib.hid (sameChgs_any w4 _ _ l (HP3.out.keep hb4) (HV3.out.keep hb4))
            have HB4 := Lib.hid (HB3.out.trans (hb4.mono HB3.out.size))
            clear hb4
            go_wp2_with fail
            refine HSM.out.mono ?_
            rintro e w5 ⟨rfl, hb5⟩
            have HB5 := Lib.hid (HB4.out.trans (hb5.mono HB4.out.size))
            clear hb5
            go_wp2_with fail
            go_ret
            exact ⟨by first | rfl | simp, HB5.out⟩
end Go.Proofs.YtgilflkgibfjgaaDoor
