/- query.badName, badTerm, Shape's closures, walked. -/
import Derived.Test.YtgilflkgibfjgaaGreatDoorRx
import Derived.Test.YtgilflkgibfjgaaGreatDoorJy
import Derived.Test.YtgilflkgibfjgaaGreatDoorInStrZ
import Derived.Test.YtgilflkgibfjgaaGreatDoorInAtmZ
import Derived.Test.YtgilflkgibfjgaaGreatDoorInTrmZ
import Derived.Test.YtgilflkgibfjgaaGreatDoorLd
import Derived.OwnWalk
import Derived.Deep.QuietTactic
import Derived.BigQuiet
namespace Go.Proofs.YtgilflkgibfjgaaGreatDoor
open Go.RowKit
set_option linter.unusedVariables false


set_option maxHeartbeats 1000000 in
set_option maxRecDepth 100000 in
theorem badNameClo_any (w : World) (s : List UInt8) (hs : s.length ≤ 140737488355328) :
    Calls Tryz.prog 109 #[.string ⟨s.toArray⟩] w fun e w' => e = .returned (.bool (!isNameB s)) ∧ w = w' := by
  have hnot : ∀ (x : Bool) (w : World), (Op.unary .not (.bool x)).run Tryz.prog w = .ok (.bool (!x)) w := fun _ _ => rfl
  have HI := Lib.hid (fun W => isName_any ⟨s.toArray⟩ W (by simpa [ByteArray.size] using hs))
  obtain ⟨q, hq⟩ : ∃ q, q = isNameB s := ⟨_, rfl⟩
  rw [← hq]
  have HQ := Lib.hid hq
  clear hq hs
  go_enter Tryz.func109, Tryz.ntmps109
  go_wp2_with fail
  refine (HI.out _).mono ?_
  rintro e w2 ⟨rfl, rfl⟩
  go_wp2_with fail
  go_ret
  exact ⟨by rw [HQ.out]; rfl, rfl⟩

/-- No text of the query is beyond the reader's reach. -/
def LensA (al : List Atm) : Prop := ∀ a ∈ al, a.rel.length ≤ 140737488355328 ∧ ∀ t ∈ a.ts, t.x.length ≤ 140737488355328

set_option maxHeartbeats 16000000 in
set_option maxRecDepth 100000 in
theorem badName_any (w : World) (nm : ByteArray) (hv av : Value) (hd : List (List UInt8)) (al : List Atm) (hh : StrsAt w hv hd) (h : AtomsAt w av al) (hn : nm.size ≤ 140737488355328) (hl : ∀ s ∈ hd, s.length ≤ 140737488355328) (ha : LensA al) :
    Calls Tryz.prog 58 #[.agg #[.string nm, hv, av]] w fun e w' => e = .returned (.bool (badNq ⟨nm.data.toList, hd, al⟩)) ∧ Below w.heap.size w w' := by
  have hnot : ∀ (x : Bool) (w : World), (Op.unary .not (.bool x)).run Tryz.prog w = .ok (.bool (!x)) w := fun _ _ => rfl
  have hbox := Blk.new w 34 #[.string nm, hv, av]
  have hb0 : Below w.heap.size w (w.alloc (.cells #[.string nm, hv, av] 34)) := balloc (Below.refl _ _) _
  have hhc := containsN_Str 109 #[] (enters_of Tryz.func109 (by kernel_rfl) rfl) (atP hd fun s => !isNameB s) (w.alloc (.cells #[.string nm, hv, av] 34)) hv (hd.map strC) (hh.keep hb0) (by intro x hx; simp at hx; obtain ⟨s, _, rfl⟩ := hx; rfl) (fun W k x _ hx => by
    rw [List.getElem?_map] at hx
    cases hs : hd[k]? with
    | none => rw [hs] at hx; simp at hx
    | some s =>
      rw [hs] at hx
      simp only [Option.map_some, Option.some.injEq] at hx
      subst hx
      rw [atP_some hs]
      refine (badNameClo_any W s (hl s (List.mem_of_getElem? hs))).mono ?_
      rintro e W' ⟨rfl, rfl⟩
      exact ⟨rfl, Below.refl _ _⟩)
  rw [range_any hd _ (List.length_map _)] at hhc
  have HNM := Lib.hid (fun W => isName_any nm W hn)
  have HNA := Lib.hid (fun W (s : List UInt8) (hs : s.length ≤ 140737488355328) => isName_any ⟨s.toArray⟩ W (by simpa [ByteArray.size] using hs))
  obtain ⟨ah, hcap, rfl, _, _⟩ := hh.form
  obtain ⟨ad, cap, rfl, hnc, hcm⟩ := h.form
  unfold maxLen at hcm
  have HR := Lib.hid h
  have HA := Lib.hid ha
  have HHC := Lib.hid hhc
  have HB0 := Lib.hid hb0
  have HBX := Lib.hid hbox
  have hres : badNq ⟨nm.data.toList, hd, al⟩ = ((!isNameB nm.data.toList || hd.any fun s => !isNameB s) || al.any badNa) := rfl
  rw [hres]
  clear h ha hhc hb0 hbox hn hl hres hh
  generalize hd.length = hn at *
  generalize (hd.any fun s => !isNameB s) = hq at *
  generalize isNameB nm.data.toList = bn at *
  obtain ⟨B, hB⟩ : ∃ B, B = (!bn || hq) := ⟨_, rfl⟩
  rw [← hB]
  have HB := Lib.hid hB
  clear hB
  generalize hN : al.length = n at *
  have HN := Lib.hid hN
  clear hN
  go_enter Tryz.func58, Tryz.ntmps58
  go_wp2_with fail
  refine (HNM.out _).mono ?_
  rintro e w1 ⟨rfl, rfl⟩
  cases bn with
  | false =>
    have HBS := HB0
    go_wp2_with fail
    go_loopw [3, 20] (fun b i wr => ∃ k : Nat, k ≤ n ∧ i = .int .i64 k ∧ b = .bool (B || (al.take k).any badNa) ∧ Hid (Below w.heap.size w wr)) (fun _ i _ => n - (intOf i).toNat)
    case atStart => exact ⟨0, Nat.zero_le _, rfl, by rw [HB.out]; rfl, HBS⟩
    case round =>
      obtain ⟨k, hk, rfl, rfl, HW⟩ := hrel
      obtain ⟨wo, rfl⟩ : ∃ wo : World, wo = wr := ⟨_, rfl⟩
      by_cases hlt : k < n
      · obtain ⟨a, ha⟩ : ∃ a, al[k]? = some a := ⟨al[k]'(by rw [HN.out]; exact hlt), List.getElem?_eq_getElem (by rw [HN.out]; exact hlt)⟩
        obtain ⟨b, off, cap', tv, hv', _, _, hbl, q0, q1, hrow, hal⟩ := (HR.out.keep HW.out).get ha
        rw [HN.out] at hv'
        simp only [Value.slice.injEq, true_and] at hv'
        obtain ⟨rfl, rfl⟩ := hv'
        obtain ⟨ta, tc, rfl, htc, htm⟩ := hrow.form
        unfold maxLen at htm
        obtain ⟨hrl, htx⟩ := HA.out a (List.mem_of_getElem? ha)
        have hst := take_any_succ badNa ha
        have HST := Lib.hid hst
        have HTX := Lib.hid htx
        have HROW := Lib.hid hrow
        have HNR := Lib.hid (fun W => HNA.out W a.rel hrl)
        rw [List.length_map] at *
        generalize hM : a.ts.length = m at *
        have HM := Lib.hid hM
        obtain ⟨bb, hbb⟩ : ∃ bb, (B || (al.take k).any badNa) = bb := ⟨_, rfl⟩
        rw [hbb]
        have HBB := Lib.hid hbb
        obtain ⟨rb, hrb⟩ : ∃ rb, isNameB a.rel = rb := ⟨_, rfl⟩
        have HRB := Lib.hid hrb
        obtain ⟨b1, hb1⟩ : ∃ b1, b1 = (bb || !rb) := ⟨_, rfl⟩
        have HB1 := Lib.hid hb1
        have hrr : (⟨a.rel.toArray⟩ : ByteArray).data.toList = a.rel := by simp
        have hnr := HNR.out
        rw [hrb] at hnr
        have HNR := Lib.hid hnr
        clear ha hst hrow hal htx hM hbb hrb hb1 hrr hnr
        cases bb with
        | true =>
          go_wp2_with fail
          go_loopw [3, 34] (fun b i wr => ∃ j : Nat, j ≤ m ∧ i = .int .i64 j ∧ b = .bool (b1 || (a.ts.take j).any badNt) ∧ Hid (Below wo.heap.size wo wr)) (fun _ i _ => m - (intOf i).toNat)
          case atStart => exact ⟨0, Nat.zero_le _, rfl, by rw [HB1.out]; simp, Lib.hid (balloc (Below.refl _ _) _)⟩
          case round =>
            obtain ⟨j, hj, rfl, rfl, HX⟩ := hrel
            by_cases hjt : j < m
            · obtain ⟨t, ht⟩ : ∃ t, a.ts[j]? = some t := ⟨a.ts[j]'(by rw [HM.out]; exact hjt), List.getElem?_eq_getElem (by rw [HM.out]; exact hjt)⟩
              obtain ⟨tb, to, tcap, htv, _, _, htbl, hce⟩ := (HROW.out.keep HX.out).get (i := j) (x := t.cells) (by simp [ht])
              simp only [List.length_map, HM.out, Value.slice.injEq, true_and] at htv
              obtain ⟨rfl, rfl⟩ := htv
              have u0 := hce 0 _ rfl
              have u1 := hce 1 _ rfl
              have u2 := hce 2 _ rfl
              have u3 := hce 3 _ rfl
              simp only [Nat.add_zero] at u0
              have hxl := HTX.out t (List.mem_of_getElem? ht)
              have HTS := Lib.hid (take_any_succ badNt ht)
              obtain ⟨cc, hcc⟩ : ∃ cc, (b1 || (a.ts.take j).any badNt) = cc := ⟨_, rfl⟩
              rw [hcc]
              have HCC := Lib.hid hcc
              clear hce ht hcc
              cases cc with
              | true =>
                go_wp2_with fail
                go_roundw
                case rel => exact ⟨j + 1, by omega, by go_num, by rw [HTS.out, ← Bool.or_assoc, HCC.out]; rfl, Lib.hid (balloc HX.out _)⟩
                case measure => simp [intOf]; omega
              | false =>
                by_cases hx : t.x = []
                · have hbn : badNt t = false := by unfold badNt; rw [hx]; rfl
                  have HBN := Lib.hid hbn
                  rw [hx] at u0
                  clear hbn hx
                  go_wp2_with fail
                  go_roundw
                  case rel => exact ⟨j + 1, by omega, by go_num, by rw [HTS.out, ← Bool.or_assoc, HCC.out, HBN.out]; rfl, Lib.hid (balloc HX.out _)⟩
                  case measure => simp [intOf]; omega
                · have he := ba_empty hx
                  have he2 : t.x.isEmpty = false := by
                    cases hxx : t.x with
                    | nil => exact absurd hxx hx
                    | cons _ _ => rfl
                  have he3 : (!t.x.isEmpty) = true := by rw [he2]; rfl
                  have hbn : badNt t = !isNameB t.x := by unfold badNt; rw [decide_eq_true hx]; rfl
                  obtain ⟨xb, hxb⟩ : ∃ xb, isNameB t.x = xb := ⟨_, rfl⟩
                  rw [hxb] at hbn
                  have hxx : (⟨t.x.toArray⟩ : ByteArray).data.toList = t.x := by simp
                  have hnx := HNA.out
                  have hnx2 := fun W => hnx W t.x hxl
                  rw [hxb] at hnx2
                  have HNX := Lib.hid hnx2
                  have HBN := Lib.hid hbn
                  clear hx hbn hxb hxx hnx hnx2
                  go_wp2_with fail
                  refine (HNX.out _).mono ?_
                  rintro e w4 ⟨rfl, rfl⟩
                  go_wp2_with fail
                  go_roundw
                  case rel => exact ⟨j + 1, by omega, by go_num, by rw [HTS.out, ← Bool.or_assoc, HCC.out, HBN.out]; cases xb <;> rfl, Lib.hid (balloc HX.out _)⟩
                  case measure => simp [intOf]; omega
            · obtain rfl : j = m := by omega
              go_wp2_with fail
              go_roundw
              case rel =>
                refine ⟨k + 1, by omega, by go_num, ?_, Lib.hid (HW.out.trans (HX.out.mono HW.out.size))⟩
                rw [List.take_of_length_le (by rw [HM.out]; exact Nat.le_refl _), HST.out, ← Bool.or_assoc, HBB.out, HB1.out]
                unfold badNa
                rw [HRB.out, Bool.or_assoc]
              case measure => simp [intOf]; omega
        | false =>
          go_wp2_with fail
          refine (HNR.out _).mono ?_
          rintro e w3 ⟨rfl, rfl⟩
          go_wp2_with fail
          go_loopw [3, 34] (fun b i wr => ∃ j : Nat, j ≤ m ∧ i = .int .i64 j ∧ b = .bool (b1 || (a.ts.take j).any badNt) ∧ Hid (Below wo.heap.size wo wr)) (fun _ i _ => m - (intOf i).toNat)
          case atStart => exact ⟨0, Nat.zero_le _, rfl, by rw [HB1.out]; simp, Lib.hid (balloc (Below.refl _ _) _)⟩
          case round =>
            obtain ⟨j, hj, rfl, rfl, HX⟩ := hrel
            by_cases hjt : j < m
            · obtain ⟨t, ht⟩ : ∃ t, a.ts[j]? = some t := ⟨a.ts[j]'(by rw [HM.out]; exact hjt), List.getElem?_eq_getElem (by rw [HM.out]; exact hjt)⟩
              obtain ⟨tb, to, tcap, htv, _, _, htbl, hce⟩ := (HROW.out.keep HX.out).get (i := j) (x := t.cells) (by simp [ht])
              simp only [List.length_map, HM.out, Value.slice.injEq, true_and] at htv
              obtain ⟨rfl, rfl⟩ := htv
              have u0 := hce 0 _ rfl
              have u1 := hce 1 _ rfl
              have u2 := hce 2 _ rfl
              have u3 := hce 3 _ rfl
              simp only [Nat.add_zero] at u0
              have hxl := HTX.out t (List.mem_of_getElem? ht)
              have HTS := Lib.hid (take_any_succ badNt ht)
              obtain ⟨cc, hcc⟩ : ∃ cc, (b1 || (a.ts.take j).any badNt) = cc := ⟨_, rfl⟩
              rw [hcc]
              have HCC := Lib.hid hcc
              clear hce ht hcc
              cases cc with
              | true =>
                go_wp2_with fail
                go_roundw
                case rel => exact ⟨j + 1, by omega, by go_num, by rw [HTS.out, ← Bool.or_assoc, HCC.out]; rfl, Lib.hid (balloc HX.out _)⟩
                case measure => simp [intOf]; omega
              | false =>
                by_cases hx : t.x = []
                · have hbn : badNt t = false := by unfold badNt; rw [hx]; rfl
                  have HBN := Lib.hid hbn
                  rw [hx] at u0
                  clear hbn hx
                  go_wp2_with fail
                  go_roundw
                  case rel => exact ⟨j + 1, by omega, by go_num, by rw [HTS.out, ← Bool.or_assoc, HCC.out, HBN.out]; rfl, Lib.hid (balloc HX.out _)⟩
                  case measure => simp [intOf]; omega
                · have he := ba_empty hx
                  have he2 : t.x.isEmpty = false := by
                    cases hxx : t.x with
                    | nil => exact absurd hxx hx
                    | cons _ _ => rfl
                  have he3 : (!t.x.isEmpty) = true := by rw [he2]; rfl
                  have hbn : badNt t = !isNameB t.x := by unfold badNt; rw [decide_eq_true hx]; rfl
                  obtain ⟨xb, hxb⟩ : ∃ xb, isNameB t.x = xb := ⟨_, rfl⟩
                  rw [hxb] at hbn
                  have hxx : (⟨t.x.toArray⟩ : ByteArray).data.toList = t.x := by simp
                  have hnx := HNA.out
                  have hnx2 := fun W => hnx W t.x hxl
                  rw [hxb] at hnx2
                  have HNX := Lib.hid hnx2
                  have HBN := Lib.hid hbn
                  clear hx hbn hxb hxx hnx hnx2
                  go_wp2_with fail
                  refine (HNX.out _).mono ?_
                  rintro e w4 ⟨rfl, rfl⟩
                  go_wp2_with fail
                  go_roundw
                  case rel => exact ⟨j + 1, by omega, by go_num, by rw [HTS.out, ← Bool.or_assoc, HCC.out, HBN.out]; cases xb <;> rfl, Lib.hid (balloc HX.out _)⟩
                  case measure => simp [intOf]; omega
            · obtain rfl : j = m := by omega
              go_wp2_with fail
              go_roundw
              case rel =>
                refine ⟨k + 1, by omega, by go_num, ?_, Lib.hid (HW.out.trans (HX.out.mono HW.out.size))⟩
                rw [List.take_of_length_le (by rw [HM.out]; exact Nat.le_refl _), HST.out, ← Bool.or_assoc, HBB.out, HB1.out]
                unfold badNa
                rw [HRB.out, Bool.or_assoc]
              case measure => simp [intOf]; omega
      · obtain rfl : k = n := by omega
        go_wp2_with fail
        go_ret
        rw [List.take_of_length_le (by rw [HN.out]; exact Nat.le_refl _)]
        exact ⟨rfl, HW.out⟩
  | true =>
    go_wp2_with fail
    refine HHC.out.mono ?_
    rintro e w2 ⟨rfl, hb2⟩
    have HBS := Lib.hid (HB0.out.trans (hb2.mono (by simp)))
    have y2 := (HBX.out.below hb2 (by simp)).cell 2
    have yl := (HBX.out.below hb2 (by simp)).lt
    simp only [List.getElem?_toArray, List.getElem?_cons_zero, List.getElem?_cons_succ] at y2
    clear hb2
    go_wp2_with fail
    go_loopw [3, 20] (fun b i wr => ∃ k : Nat, k ≤ n ∧ i = .int .i64 k ∧ b = .bool (B || (al.take k).any badNa) ∧ Hid (Below w.heap.size w wr)) (fun _ i _ => n - (intOf i).toNat)
    case atStart => exact ⟨0, Nat.zero_le _, rfl, by rw [HB.out]; simp, HBS⟩
    case round =>
      obtain ⟨k, hk, rfl, rfl, HW⟩ := hrel
      obtain ⟨wo, rfl⟩ : ∃ wo : World, wo = wr := ⟨_, rfl⟩
      by_cases hlt : k < n
      · obtain ⟨a, ha⟩ : ∃ a, al[k]? = some a := ⟨al[k]'(by rw [HN.out]; exact hlt), List.getElem?_eq_getElem (by rw [HN.out]; exact hlt)⟩
        obtain ⟨b, off, cap', tv, hv', _, _, hbl, q0, q1, hrow, hal⟩ := (HR.out.keep HW.out).get ha
        rw [HN.out] at hv'
        simp only [Value.slice.injEq, true_and] at hv'
        obtain ⟨rfl, rfl⟩ := hv'
        obtain ⟨ta, tc, rfl, htc, htm⟩ := hrow.form
        unfold maxLen at htm
        obtain ⟨hrl, htx⟩ := HA.out a (List.mem_of_getElem? ha)
        have hst := take_any_succ badNa ha
        have HST := Lib.hid hst
        have HTX := Lib.hid htx
        have HROW := Lib.hid hrow
        have HNR := Lib.hid (fun W => HNA.out W a.rel hrl)
        rw [List.length_map] at *
        generalize hM : a.ts.length = m at *
        have HM := Lib.hid hM
        obtain ⟨bb, hbb⟩ : ∃ bb, (B || (al.take k).any badNa) = bb := ⟨_, rfl⟩
        rw [hbb]
        have HBB := Lib.hid hbb
        obtain ⟨rb, hrb⟩ : ∃ rb, isNameB a.rel = rb := ⟨_, rfl⟩
        have HRB := Lib.hid hrb
        obtain ⟨b1, hb1⟩ : ∃ b1, b1 = (bb || !rb) := ⟨_, rfl⟩
        have HB1 := Lib.hid hb1
        have hrr : (⟨a.rel.toArray⟩ : ByteArray).data.toList = a.rel := by simp
        have hnr := HNR.out
        rw [hrb] at hnr
        have HNR := Lib.hid hnr
        clear ha hst hrow hal htx hM hbb hrb hb1 hrr hnr
        cases bb with
        | true =>
          go_wp2_with fail
          go_loopw [3, 34] (fun b i wr => ∃ j : Nat, j ≤ m ∧ i = .int .i64 j ∧ b = .bool (b1 || (a.ts.take j).any badNt) ∧ Hid (Below wo.heap.size wo wr)) (fun _ i _ => m - (intOf i).toNat)
          case atStart => exact ⟨0, Nat.zero_le _, rfl, by rw [HB1.out]; simp, Lib.hid (balloc (Below.refl _ _) _)⟩
          case round =>
            obtain ⟨j, hj, rfl, rfl, HX⟩ := hrel
            by_cases hjt : j < m
            · obtain ⟨t, ht⟩ : ∃ t, a.ts[j]? = some t := ⟨a.ts[j]'(by rw [HM.out]; exact hjt), List.getElem?_eq_getElem (by rw [HM.out]; exact hjt)⟩
              obtain ⟨tb, to, tcap, htv, _, _, htbl, hce⟩ := (HROW.out.keep HX.out).get (i := j) (x := t.cells) (by simp [ht])
              simp only [List.length_map, HM.out, Value.slice.injEq, true_and] at htv
              obtain ⟨rfl, rfl⟩ := htv
              have u0 := hce 0 _ rfl
              have u1 := hce 1 _ rfl
              have u2 := hce 2 _ rfl
              have u3 := hce 3 _ rfl
              simp only [Nat.add_zero] at u0
              have hxl := HTX.out t (List.mem_of_getElem? ht)
              have HTS := Lib.hid (take_any_succ badNt ht)
              obtain ⟨cc, hcc⟩ : ∃ cc, (b1 || (a.ts.take j).any badNt) = cc := ⟨_, rfl⟩
              rw [hcc]
              have HCC := Lib.hid hcc
              clear hce ht hcc
              cases cc with
              | true =>
                go_wp2_with fail
                go_roundw
                case rel => exact ⟨j + 1, by omega, by go_num, by rw [HTS.out, ← Bool.or_assoc, HCC.out]; rfl, Lib.hid (balloc HX.out _)⟩
                case measure => simp [intOf]; omega
              | false =>
                by_cases hx : t.x = []
                · have hbn : badNt t = false := by unfold badNt; rw [hx]; rfl
                  have HBN := Lib.hid hbn
                  rw [hx] at u0
                  clear hbn hx
                  go_wp2_with fail
                  go_roundw
                  case rel => exact ⟨j + 1, by omega, by go_num, by rw [HTS.out, ← Bool.or_assoc, HCC.out, HBN.out]; rfl, Lib.hid (balloc HX.out _)⟩
                  case measure => simp [intOf]; omega
                · have he := ba_empty hx
                  have he2 : t.x.isEmpty = false := by
                    cases hxx : t.x with
                    | nil => exact absurd hxx hx
                    | cons _ _ => rfl
                  have he3 : (!t.x.isEmpty) = true := by rw [he2]; rfl
                  have hbn : badNt t = !isNameB t.x := by unfold badNt; rw [decide_eq_true hx]; rfl
                  obtain ⟨xb, hxb⟩ : ∃ xb, isNameB t.x = xb := ⟨_, rfl⟩
                  rw [hxb] at hbn
                  have hxx : (⟨t.x.toArray⟩ : ByteArray).data.toList = t.x := by simp
                  have hnx := HNA.out
                  have hnx2 := fun W => hnx W t.x hxl
                  rw [hxb] at hnx2
                  have HNX := Lib.hid hnx2
                  have HBN := Lib.hid hbn
                  clear hx hbn hxb hxx hnx hnx2
                  go_wp2_with fail
                  refine (HNX.out _).mono ?_
                  rintro e w4 ⟨rfl, rfl⟩
                  go_wp2_with fail
                  go_roundw
                  case rel => exact ⟨j + 1, by omega, by go_num, by rw [HTS.out, ← Bool.or_assoc, HCC.out, HBN.out]; cases xb <;> rfl, Lib.hid (balloc HX.out _)⟩
                  case measure => simp [intOf]; omega
            · obtain rfl : j = m := by omega
              go_wp2_with fail
              go_roundw
              case rel =>
                refine ⟨k + 1, by omega, by go_num, ?_, Lib.hid (HW.out.trans (HX.out.mono HW.out.size))⟩
                rw [List.take_of_length_le (by rw [HM.out]; exact Nat.le_refl _), HST.out, ← Bool.or_assoc, HBB.out, HB1.out]
                unfold badNa
                rw [HRB.out, Bool.or_assoc]
              case measure => simp [intOf]; omega
        | false =>
          go_wp2_with fail
          refine (HNR.out _).mono ?_
          rintro e w3 ⟨rfl, rfl⟩
          go_wp2_with fail
          go_loopw [3, 34] (fun b i wr => ∃ j : Nat, j ≤ m ∧ i = .int .i64 j ∧ b = .bool (b1 || (a.ts.take j).any badNt) ∧ Hid (Below wo.heap.size wo wr)) (fun _ i _ => m - (intOf i).toNat)
          case atStart => exact ⟨0, Nat.zero_le _, rfl, by rw [HB1.out]; simp, Lib.hid (balloc (Below.refl _ _) _)⟩
          case round =>
            obtain ⟨j, hj, rfl, rfl, HX⟩ := hrel
            by_cases hjt : j < m
            · obtain ⟨t, ht⟩ : ∃ t, a.ts[j]? = some t := ⟨a.ts[j]'(by rw [HM.out]; exact hjt), List.getElem?_eq_getElem (by rw [HM.out]; exact hjt)⟩
              obtain ⟨tb, to, tcap, htv, _, _, htbl, hce⟩ := (HROW.out.keep HX.out).get (i := j) (x := t.cells) (by simp [ht])
              simp only [List.length_map, HM.out, Value.slice.injEq, true_and] at htv
              obtain ⟨rfl, rfl⟩ := htv
              have u0 := hce 0 _ rfl
              have u1 := hce 1 _ rfl
              have u2 := hce 2 _ rfl
              have u3 := hce 3 _ rfl
              simp only [Nat.add_zero] at u0
              have hxl := HTX.out t (List.mem_of_getElem? ht)
              have HTS := Lib.hid (take_any_succ badNt ht)
              obtain ⟨cc, hcc⟩ : ∃ cc, (b1 || (a.ts.take j).any badNt) = cc := ⟨_, rfl⟩
              rw [hcc]
              have HCC := Lib.hid hcc
              clear hce ht hcc
              cases cc with
              | true =>
                go_wp2_with fail
                go_roundw
                case rel => exact ⟨j + 1, by omega, by go_num, by rw [HTS.out, ← Bool.or_assoc, HCC.out]; rfl, Lib.hid (balloc HX.out _)⟩
                case measure => simp [intOf]; omega
              | false =>
                by_cases hx : t.x = []
                · have hbn : badNt t = false := by unfold badNt; rw [hx]; rfl
                  have HBN := Lib.hid hbn
                  rw [hx] at u0
                  clear hbn hx
                  go_wp2_with fail
                  go_roundw
                  case rel => exact ⟨j + 1, by omega, by go_num, by rw [HTS.out, ← Bool.or_assoc, HCC.out, HBN.out]; rfl, Lib.hid (balloc HX.out _)⟩
                  case measure => simp [intOf]; omega
                · have he := ba_empty hx
                  have he2 : t.x.isEmpty = false := by
                    cases hxx : t.x with
                    | nil => exact absurd hxx hx
                    | cons _ _ => rfl
                  have he3 : (!t.x.isEmpty) = true := by rw [he2]; rfl
                  have hbn : badNt t = !isNameB t.x := by unfold badNt; rw [decide_eq_true hx]; rfl
                  obtain ⟨xb, hxb⟩ : ∃ xb, isNameB t.x = xb := ⟨_, rfl⟩
                  rw [hxb] at hbn
                  have hxx : (⟨t.x.toArray⟩ : ByteArray).data.toList = t.x := by simp
                  have hnx := HNA.out
                  have hnx2 := fun W => hnx W t.x hxl
                  rw [hxb] at hnx2
                  have HNX := Lib.hid hnx2
                  have HBN := Lib.hid hbn
                  clear hx hbn hxb hxx hnx hnx2
                  go_wp2_with fail
                  refine (HNX.out _).mono ?_
                  rintro e w4 ⟨rfl, rfl⟩
                  go_wp2_with fail
                  go_roundw
                  case rel => exact ⟨j + 1, by omega, by go_num, by rw [HTS.out, ← Bool.or_assoc, HCC.out, HBN.out]; cases xb <;> rfl, Lib.hid (balloc HX.out _)⟩
                  case measure => simp [intOf]; omega
            · obtain rfl : j = m := by omega
              go_wp2_with fail
              go_roundw
              case rel =>
                refine ⟨k + 1, by omega, by go_num, ?_, Lib.hid (HW.out.trans (HX.out.mono HW.out.size))⟩
                rw [List.take_of_length_le (by rw [HM.out]; exact Nat.le_refl _), HST.out, ← Bool.or_assoc, HBB.out, HB1.out]
                unfold badNa
                rw [HRB.out, Bool.or_assoc]
              case measure => simp [intOf]; omega
      · obtain rfl : k = n := by omega
        go_wp2_with fail
        go_ret
        rw [List.take_of_length_le (by rw [HN.out]; exact Nat.le_refl _)]
        exact ⟨rfl, HW.out⟩

theorem Tryz.badTermEq (k n : Int) (t : List UInt8) (w : World) : (binOp .neq 65 (.agg #[.int .i64 k, .int .i64 n, .string ⟨t.toArray⟩]) (.agg #[.int .i64 0, .int .i64 0, .string ⟨#[]⟩])).run Tryz.prog w = .ok (.bool (decide ((⟨k, n, t⟩ : Vl) ≠ ⟨0, 0, []⟩))) w := by
  have := neq_value ⟨k, n, t⟩ ⟨0, 0, []⟩ w
  rw [decide_not]
  exact this

set_option maxHeartbeats 2000000 in
set_option maxRecDepth 100000 in
theorem badTerm_any (w : World) (t : Trm) :
    Calls Tryz.prog 61 #[.agg t.cells.toArray] w fun e w' => e = .returned (.bool (badTm t)) ∧ Below w.heap.size w w' := by
  have hnot : ∀ (x : Bool) (w : World), (Op.unary .not (.bool x)).run Tryz.prog w = .ok (.bool (!x)) w := fun _ _ => rfl
  have hneq := Tryz.badTermEq
  have hb0 : Below w.heap.size w (w.alloc (.cells t.cells.toArray 106)) := balloc (Below.refl _ _) _
  have hb1 := fun c : Array Value => balloc hb0 (.cells c 65)
  obtain ⟨x, k, n, s⟩ := t
  unfold badTm Trm.cells
  by_cases hx : x = []
  · subst hx
    rw [if_pos rfl]
    have hv := fun W => valid_any k n ⟨s.toArray⟩ W
    have hss : (⟨s.toArray⟩ : ByteArray).data.toList = s := by simp
    rw [hss] at hv
    show Calls _ _ _ _ fun e w' => e = .returned (.bool (!validB k n s)) ∧ _
    generalize validB k n s = vb at *
    have HV := Lib.hid hv
    have HB1 := Lib.hid hb1
    clear hv hss hb0 hb1
    go_enter Tryz.func61, Tryz.ntmps61
    go_wp2_with fail
    refine (HV.out _).mono ?_
    rintro e w1 ⟨rfl, rfl⟩
    go_wp2_with fail
    go_ret
    exact ⟨rfl, HB1.out _⟩
  · rw [if_neg hx]
    have he := ba_empty hx
    have he2 : x.isEmpty = false := by
      cases hxx : x with
      | nil => exact absurd hxx hx
      | cons _ _ => rfl
    have he3 : (!x.isEmpty) = true := by rw [he2]; rfl
    have HB0 := Lib.hid hb0
    show Calls _ _ _ _ fun e w' => e = .returned (.bool (decide ((⟨k, n, s⟩ : Vl) ≠ ⟨0, 0, []⟩))) ∧ _
    clear hb0 hb1 hx
    go_enter Tryz.func61, Tryz.ntmps61
    go_wp2_with fail
    go_ret
    exact ⟨by simp, HB0.out⟩

set_option maxHeartbeats 2000000 in
set_option maxRecDepth 100000 in
theorem badTerms_any (w : World) (a : Atm) (tv : Value) (h : RowAt w tv 4 (a.ts.map Trm.cells)) :
    Calls Tryz.prog 59 #[.agg #[.string ⟨a.rel.toArray⟩, tv]] w fun e w' => e = .returned (.bool (a.ts.any badTm)) ∧ Below w.heap.size w w' := by
  have hb0 : Below w.heap.size w (w.alloc (.cells #[.string ⟨a.rel.toArray⟩, tv] 93)) := balloc (Below.refl _ _) _
  have hc := containsN_Trm 61 #[] (enters_of Tryz.func61 (by kernel_rfl) rfl) (atP a.ts badTm) (w.alloc (.cells #[.string ⟨a.rel.toArray⟩, tv] 93)) tv (a.ts.map Trm.cells) (h.keep hb0) (trm_len _) (fun W k x _ hx => by
    rw [List.getElem?_map] at hx
    cases hs : a.ts[k]? with
    | none => rw [hs] at hx; simp at hx
    | some s =>
      rw [hs] at hx
      simp only [Option.map_some, Option.some.injEq] at hx
      subst hx
      rw [atP_some hs]
      exact badTerm_any W s)
  rw [range_any a.ts _ (List.length_map _)] at hc
  obtain ⟨ta, tc, rfl, _, _⟩ := h.form
  have HC := Lib.hid hc
  have HB0 := Lib.hid hb0
  clear h hc hb0
  generalize (a.ts.map Trm.cells).length = m at *
  generalize a.ts.any badTm = R at *
  go_enter Tryz.func59, Tryz.ntmps59
  go_wp2_with fail
  refine HC.out.mono ?_
  rintro e w2 ⟨rfl, hb⟩
  have HB := Lib.hid (HB0.out.trans (hb.mono (by simp)))
  clear hb
  go_wp2_with fail
  go_ret
  exact ⟨rfl, HB.out⟩

set_option maxHeartbeats 2000000 in
set_option maxRecDepth 100000 in
theorem wide_any (w : World) (a : Atm) (tv : Value) (h : RowAt w tv 4 (a.ts.map Trm.cells)) :
    Calls Tryz.prog 62 #[.agg #[.string ⟨a.rel.toArray⟩, tv]] w fun e w' => e = .returned (.bool (wideA a)) ∧ Below w.heap.size w w' := by
  obtain ⟨ta, tc, rfl, _, _⟩ := h.form
  unfold wideA
  clear h
  simp only [List.length_map]
  generalize a.ts.length = n
  have HB0 := Lib.hid (show Below w.heap.size w (w.alloc (.cells #[.string ⟨a.rel.toArray⟩, .slice ta n tc] 93)) from balloc (Below.refl _ _) _)
  go_enter Tryz.func62, Tryz.ntmps62
  go_wp2_with fail
  go_ret
  exact ⟨by simp; omega, HB0.out⟩

set_option maxHeartbeats 2000000 in
set_option maxRecDepth 100000 in
/-- any, at a closure that tells p of an atom. -/
theorem shapeAny_any (g : Nat) (eg : ∀ args w, (callFunc g args).run Tryz.prog w = .ok (.enter g args) w) (p : Atm → Bool) (w : World) (b : Nat) (nm hv av : Value) (al : List Atm) (hb : Blk w b 34 #[nm, hv, av]) (h : AtomsAt w av al)
    (hf : ∀ (W : World) (a : Atm) (tv : Value), RowAt W tv 4 (a.ts.map Trm.cells) → Calls Tryz.prog g #[.agg #[.string ⟨a.rel.toArray⟩, tv]] W fun e W' => e = .returned (.bool (p a)) ∧ Below W.heap.size W W') :
    Calls Tryz.prog 56 #[.func (.func g) #[] #[], .pointer (some ⟨b, 0, none⟩)] w fun e w' => e = .returned (.bool (al.any p)) ∧ Below w.heap.size w w' := by
  obtain ⟨rows, h1, h2⟩ := h
  have hc := containsN_Atm g #[] eg (atP al p) w av rows h1 (fun x hx => by
    obtain ⟨a, _, tv, rfl, _⟩ := all2_mem h2 x hx
    rfl) (fun W k x hW hx => by
    obtain ⟨a, ha, tv, rfl, h3, h4⟩ : ∃ a, al[k]? = some a ∧ AtmC w x a := by
      have hk : k < al.length := by rw [← h2.length]; exact (List.getElem?_eq_some_iff.1 hx).1
      obtain ⟨row, hr, hc⟩ := h2.get (List.getElem?_eq_getElem hk)
      rw [hx] at hr
      obtain rfl := Option.some.inj hr
      exact ⟨_, List.getElem?_eq_getElem hk, hc⟩
    rw [atP_some ha]
    exact hf W a tv (h3.keep hW))
  rw [range_any al _ h2.length] at hc
  have x2 := hb.cell 2
  have xl := hb.lt
  simp only [List.getElem?_toArray, List.getElem?_cons_zero, List.getElem?_cons_succ] at x2
  obtain ⟨ad, cap, rfl, _, _⟩ := h1.form
  have HC := Lib.hid hc
  clear hc hb h1 h2 hf
  generalize al.any p = RES at *
  go_enter Tryz.func56, Tryz.ntmps56
  go_wp2_with fail
  refine HC.out.mono ?_
  rintro e w2 ⟨rfl, hb2⟩
  have HB2 := Lib.hid hb2
  clear hb2
  go_wp2_with fail
  go_ret
  exact ⟨rfl, HB2.out⟩
end Go.Proofs.YtgilflkgibfjgaaGreatDoor
