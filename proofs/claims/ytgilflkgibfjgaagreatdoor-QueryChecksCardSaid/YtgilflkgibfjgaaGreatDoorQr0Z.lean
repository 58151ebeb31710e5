/- osierref09.Shape, walked. -/
import Derived.Test.YtgilflkgibfjgaaGreatDoorQs1Z
import Derived.Test.YtgilflkgibfjgaaGreatDoorLf
import Derived.Test.YtgilflkgibfjgaaGreatDoorLe
import Derived.Test.YtgilflkgibfjgaaGreatDoorGg
import Derived.Deep.RegionLaw
namespace Go.Proofs.YtgilflkgibfjgaaGreatDoor
open Go.RowKit
set_option linter.unusedVariables false

theorem Tryz.zeroTermEq (k n : Int) (t : List UInt8) (w : World) : (binOp .eql 65 (.agg #[.int .i64 k, .int .i64 n, .string ⟨t.toArray⟩]) (.agg #[.int .i64 0, .int .i64 0, .string ⟨#[]⟩])).run Tryz.prog w = .ok (.bool (decide ((⟨k, n, t⟩ : Vl) = ⟨0, 0, []⟩))) w := eql_value ⟨k, n, t⟩ ⟨0, 0, []⟩ w
theorem dec5 (m : Nat) : decide ((5 : Int) < (m : Int)) = decide (5 < m) := by
  rw [decide_eq_decide]
  omega
theorem idx_seen {l : List (List UInt8)} {s : List UInt8} {k : Nat} (h : l[k]? = some s) (hm : s ∈ l.take k) : idxI l s < k := by
  have hk := (List.getElem?_eq_some_iff.1 h).1
  have h1 : s ∈ l := List.mem_of_mem_take hm
  unfold idxI
  rw [if_pos h1]
  have h2 : l.idxOf s = (l.take k).idxOf s := by
    conv => lhs; rw [← List.take_append_drop k l]
    rw [List.idxOf_append, if_pos hm]
  have h3 : (l.take k).idxOf s < (l.take k).length := List.idxOf_lt_length_of_mem hm
  rw [List.length_take] at h3
  omega
theorem lack_any (vs l : List (List UInt8)) : decide (0 ≤ lackI vs l) = l.any fun s => !decide (s ∈ vs) := by
  unfold lackI
  rw [idxP_any, List.any_map]
  congr 1

set_option maxHeartbeats 32000000 in
set_option maxRecDepth 100000 in
theorem refShape_any (w : World) (nm : ByteArray) (hv av : Value) (hd : List (List UInt8)) (al : List Atm) (hh : StrsAt w hv hd) (h : AtomsAt w av al) (hn : nm.size ≤ 140737488355328) (hl : ∀ s ∈ hd, s.length ≤ 140737488355328) (ha : LensA al) :
    Calls Tryz.prog 19 #[.agg #[.string nm, hv, av]] w fun e w' => e = .returned (.int .i64 (chkQ ⟨nm.data.toList, hd, al⟩)) ∧ Below w.heap.size w w' := by
  have hnot : ∀ (x : Bool) (w : World), (Op.unary .not (.bool x)).run Tryz.prog w = .ok (.bool (!x)) w := fun _ _ => rfl
  have heql := Tryz.zeroTermEq
  obtain ⟨w0, hw0⟩ : ∃ w0, w.alloc (.cells #[.string nm, hv, av] 34) = w0 := ⟨_, rfl⟩
  have hbox := Blk.new w 34 #[.string nm, hv, av]
  have hb0 : Below w.heap.size w (w.alloc (.cells #[.string nm, hv, av] 34)) := balloc (Below.refl _ _) _
  have hwl : w.heap.size < w0.heap.size := by rw [← hw0]; simp
  rw [hw0] at hbox hb0
  have HH := Lib.hid (hh.keep hb0)
  have HR := Lib.hid (h.keep hb0)
  have HNM := Lib.hid (fun W => refName_any nm W (by omega))
  have HNA := Lib.hid (fun W (s : List UInt8) (hs : s.length ≤ 140737488355328) => refName_any ⟨s.toArray⟩ W (by
    have e : (⟨s.toArray⟩ : ByteArray).size = s.length := by simp [ByteArray.size]
    omega))
  have HVD := Lib.hid (fun W (t : Trm) => refValid_any t.k t.n ⟨t.t.toArray⟩ W)
  have HAT := Lib.hid (fun (W : World) (hW : Below w0.heap.size w0 W) (s : List UInt8) => refAt_any W hv hd s (HH.out.keep hW))
  have HVR := Lib.hid (fun (W : World) (hW : Below w0.heap.size w0 W) (h1 : al.length ≤ 6) (h2 : al.any wideA = false) => refVars_any W nm hv av al (HR.out.keep hW) (by omega) (by have := tsum_thin al (any_thin h2); omega))
  have HVS := Lib.hid (fun (h1 : al.length ≤ 6) (h2 : al.any wideA = false) => (show (qVars al).length ≤ 30 from by have h3 := qVars_small ⟨[], [], al⟩; have h4 := tsum_thin al (any_thin h2); simp only at h3; omega))
  have HBX := Lib.hid hbox
  have HL := Lib.hid hl
  have HA := Lib.hid ha
  have HX := Lib.hid (fun (W : World) (hW : Below w0.heap.size w0 W) => hbox.below hW hwl)
  obtain ⟨ad, cap, rfl, hnc, hcm⟩ := h.form
  obtain ⟨hda, hdc, rfl, hhc, hhm⟩ := hh.form
  unfold maxLen at hcm hhm
  have hhl := hh.len
  obtain ⟨Q, hQ⟩ : ∃ Q, Q = chkQ ⟨nm.data.toList, hd, al⟩ := ⟨_, rfl⟩
  rw [← hQ]
  have hQ2 : Q = if ((!isNameB nm.data.toList || hd.any fun s => !isNameB s) || al.any badNa) = true then 72 else if (al.any fun a => a.ts.any badTm) = true then 21 else if al.length = 0 ∨ 6 < al.length then 90 else if al.any wideA = true then 91 else if 0 ≤ dupI hd then 92 else if 0 ≤ lackI (qVars al) hd then 93 else 0 := hQ
  have hlk := lack_any (qVars al) hd
  have hdp : dupG (hd.take 0) (hd.drop 0) 0 = dupI hd := rfl
  have HW0 := Lib.hid hw0
  have HB0 := Lib.hid hb0
  have x0 := hbox.cell 0
  have x1 := hbox.cell 1
  have x2 := hbox.cell 2
  simp only [List.getElem?_toArray, List.getElem?_cons_zero, List.getElem?_cons_succ] at x0 x1 x2
  clear h hh hn hl ha hbox hb0 hw0 hQ
  generalize isNameB nm.data.toList = bn at *
  generalize dupI hd = D1 at *
  generalize lackI (qVars al) hd = D2 at *
  have HQ := Lib.hid hQ2
  have HLK := Lib.hid hlk
  have HDP := Lib.hid hdp
  clear hQ2 hlk hdp
  generalize hNN : al.length = n at *
  generalize hHN : hd.length = hn at *
  have HN := Lib.hid hNN
  have HHN := Lib.hid hHN
  clear hNN hHN
  go_enter Tryz.func19, Tryz.ntmps19
  go_wp2_with fail
  rw [HW0.out]
  refine (HNM.out _).mono ?_
  rintro e w1 ⟨rfl, rfl⟩
  go_wp2_with fail
  go_loop [3, 4] (fun b i => ∃ k : Nat, k ≤ hn ∧ i = .int .i64 k ∧ b = .bool (!(!bn || (hd.take k).any fun s => !isNameB s))) (fun _ i => hn - (intOf i).toNat)
  case atStart => exact ⟨0, Nat.zero_le _, rfl, by cases bn <;> rfl⟩
  case round =>
    obtain ⟨k, hk, rfl, rfl⟩ := hrel
    by_cases hlt : k < hn
    · obtain ⟨s, hs⟩ : ∃ s, hd[k]? = some s := ⟨hd[k]'(by rw [HHN.out]; exact hlt), List.getElem?_eq_getElem (by rw [HHN.out]; exact hlt)⟩
      obtain ⟨b, off, cap', hv', _, _, hbl, hce⟩ := HH.out.get hs
      rw [HHN.out] at hv'
      simp only [Value.slice.injEq, true_and] at hv'
      obtain ⟨rfl, rfl⟩ := hv'
      have hnx := HNA.out w0 s (HL.out s (List.mem_of_getElem? hs))
      have HST := Lib.hid (take_any_succ (fun s : List UInt8 => !isNameB s) hs)
      obtain ⟨sb, hsb⟩ : ∃ sb, isNameB s = sb := ⟨_, rfl⟩
      rw [show isNameB (⟨s.toArray⟩ : ByteArray).data.toList = sb from hsb] at hnx
      have HNX := Lib.hid hnx
      have HSB := Lib.hid hsb
      obtain ⟨cc, hcc⟩ : ∃ cc, (!bn || (hd.take k).any fun s => !isNameB s) = cc := ⟨_, rfl⟩
      rw [hcc]
      have HCC := Lib.hid hcc
      have hdk : decide ((k : Int) < 0) = false := by simp
      have hdn : decide ((hn : Int) ≤ (k : Int)) = false := by simp; omega
      clear hs hsb hnx hcc
      cases cc with
      | true =>
        go_wp2_with fail
        go_round
        case rel => exact ⟨k + 1, by omega, by go_num, by rw [HST.out, ← Bool.or_assoc, HCC.out]; rfl⟩
        case measure => simp [intOf]; omega
      | false =>
        go_wp2_with fail
        refine HNX.out.mono ?_
        rintro e w2 ⟨rfl, rfl⟩
        go_wp2_with fail
        go_round
        case rel => exact ⟨k + 1, by omega, by go_num, by rw [HST.out, ← Bool.or_assoc, HCC.out, HSB.out]; cases sb <;> rfl⟩
        case measure => simp [intOf]; omega
    · obtain rfl : k = hn := by omega
      rw [List.take_of_length_le (by rw [HHN.out]; exact Nat.le_refl _)]
      generalize (!bn || hd.any fun s => !isNameB s) = N0 at *
      go_wp2_with fail
      go_loopw [3, 5, 6, 7] (fun b v u i wr => ∃ j : Nat, j ≤ n ∧ i = .int .i64 j ∧ b = .bool (!(N0 || (al.take j).any badNa)) ∧ v = .bool (!((al.take j).any fun a => a.ts.any badTm)) ∧ u = .bool ((al.take j).any wideA) ∧ Hid (Below w0.heap.size w0 wr)) (fun _ _ _ i _ => n - (intOf i).toNat)
      case atStart => exact ⟨0, Nat.zero_le _, rfl, by simp, by simp, by simp, Lib.hid (Below.refl _ _)⟩
      case round =>
        obtain ⟨j, hj, rfl, rfl, rfl, rfl, HW⟩ := hrel
        obtain ⟨wo, rfl⟩ : ∃ wo : World, wo = wr := ⟨_, rfl⟩
        have hxo := HX.out _ HW.out
        have x0 := hxo.cell 0
        have x1 := hxo.cell 1
        have x2 := hxo.cell 2
        have xl := hxo.lt
        simp only [List.getElem?_toArray, List.getElem?_cons_zero, List.getElem?_cons_succ] at x0 x1 x2
        clear hxo
        by_cases hjn : j < n
        · obtain ⟨a, ha⟩ : ∃ a, al[j]? = some a := ⟨al[j]'(by rw [HN.out]; exact hjn), List.getElem?_eq_getElem (by rw [HN.out]; exact hjn)⟩
          obtain ⟨b, off, cap', tv, hv', _, _, hbl, q0, q1, hrow, hal⟩ := (HR.out.keep HW.out).get ha
          rw [HN.out] at hv'
          simp only [Value.slice.injEq, true_and] at hv'
          obtain ⟨rfl, rfl⟩ := hv'
          obtain ⟨ta, tc, rfl, htc, htm⟩ := hrow.form
          unfold maxLen at htm
          obtain ⟨hrl, htx⟩ := HA.out a (List.mem_of_getElem? ha)
          have HS1 := Lib.hid (take_any_succ badNa ha)
          have HS2 := Lib.hid (take_any_succ (fun a : Atm => a.ts.any badTm) ha)
          have HS3 := Lib.hid (take_any_succ wideA ha)
          have HTX := Lib.hid htx
          have hnr := HNA.out wo a.rel hrl
          obtain ⟨rb, hrb⟩ : ∃ rb, isNameB a.rel = rb := ⟨_, rfl⟩
          rw [show isNameB (⟨a.rel.toArray⟩ : ByteArray).data.toList = rb from hrb] at hnr
          have HRB := Lib.hid hrb
          have HNR := Lib.hid hnr
          have hwa : wideA a = decide (5 < a.ts.length) := rfl
          rw [List.length_map] at *
          generalize hM : a.ts.length = m at *
          have HM := Lib.hid hM
          have HROW := Lib.hid hrow
          have HWA := Lib.hid hwa
          obtain ⟨bb, hbb⟩ : ∃ bb, (N0 || (al.take j).any badNa) = bb := ⟨_, rfl⟩
          obtain ⟨vv, hvv⟩ : ∃ vv, ((al.take j).any fun a => a.ts.any badTm) = vv := ⟨_, rfl⟩
          obtain ⟨ww, hww⟩ : ∃ ww, (al.take j).any wideA = ww := ⟨_, rfl⟩
          rw [hbb, hvv, hww]
          have HBB := Lib.hid hbb
          have HVV := Lib.hid hvv
          have HWW := Lib.hid hww
          obtain ⟨b1, hb1⟩ : ∃ b1, b1 = (bb || !rb) := ⟨_, rfl⟩
          have HB1 := Lib.hid hb1
          have hdk : decide ((j : Int) < 0) = false := by simp
          have hdn : decide ((n : Int) ≤ (j : Int)) = false := by simp; omega
          clear ha hrow hal htx hM hbb hvv hww hrb hb1 hnr hwa
          rcases hww2 : ww with _ | _
          all_goals
            have HW2 := Lib.hid hww2
            clear hww2
          · by_cases h5 : 5 < m
            · have h5i : (5 : Int) < (m : Int) := by omega
              have HW5 := Lib.hid (show wideA a = true by rw [HWA.out]; simpa using h5)
              cases bb with
              | true =>
                go_wp2_with fail
                go_loopw [3, 5, 8] (fun b v i wr => ∃ p : Nat, p ≤ m ∧ i = .int .i64 p ∧ b = .bool (!(b1 || (a.ts.take p).any badNt)) ∧ v = .bool (!(vv || (a.ts.take p).any badTm)) ∧ Hid (Below wo.heap.size wo wr)) (fun _ _ i _ => m - (intOf i).toNat)
                case atStart => exact ⟨0, Nat.zero_le _, rfl, by rw [HB1.out]; cases rb <;> rfl, by cases vv <;> rfl, Lib.hid (Below.refl _ _)⟩
                case round =>
                  obtain ⟨p, hp, rfl, rfl, rfl, HZ⟩ := hrel
                  have hbz := HW.out.trans (HZ.out.mono HW.out.size)
                  have HBZ := Lib.hid hbz
                  have hxz := HX.out _ hbz
                  have x0 := hxz.cell 0
                  have x1 := hxz.cell 1
                  have x2 := hxz.cell 2
                  have xl := hxz.lt
                  simp only [List.getElem?_toArray, List.getElem?_cons_zero, List.getElem?_cons_succ] at x0 x1 x2
                  have g0 := (HZ.out.cell (p := ⟨b, off + j * 2, none⟩) hbl).trans q0
                  have g1 := (HZ.out.cell (p := ⟨b, off + j * 2 + 1, none⟩) hbl).trans q1
                  have hzl := Nat.lt_of_lt_of_le hbl HZ.out.size
                  clear hxz hbz
                  by_cases hpt : p < m
                  · obtain ⟨t, ht⟩ : ∃ t, a.ts[p]? = some t := ⟨a.ts[p]'(by rw [HM.out]; exact hpt), List.getElem?_eq_getElem (by rw [HM.out]; exact hpt)⟩
                    obtain ⟨tb, to, tcap, htv, _, _, htbl, hce⟩ := (HROW.out.keep HZ.out).get (i := p) (x := t.cells) (by simp [ht])
                    simp only [List.length_map, HM.out, Value.slice.injEq, true_and] at htv
                    obtain ⟨rfl, rfl⟩ := htv
                    have u0 := hce 0 _ rfl
                    have u1 := hce 1 _ rfl
                    have u2 := hce 2 _ rfl
                    have u3 := hce 3 _ rfl
                    simp only [Nat.add_zero] at u0
                    have hxl := HTX.out t (List.mem_of_getElem? ht)
                    have HT1 := Lib.hid (take_any_succ badNt ht)
                    have HT2 := Lib.hid (take_any_succ badTm ht)
                    obtain ⟨cc, hcc⟩ : ∃ cc, (b1 || (a.ts.take p).any badNt) = cc := ⟨_, rfl⟩
                    obtain ⟨dd, hdd⟩ : ∃ dd, (vv || (a.ts.take p).any badTm) = dd := ⟨_, rfl⟩
                    rw [hcc, hdd]
                    have HCC := Lib.hid hcc
                    have HDD := Lib.hid hdd
                    have hpk : decide ((p : Int) < 0) = false := by simp
                    have hpn : decide ((m : Int) ≤ (p : Int)) = false := by simp; omega
                    clear hce ht hcc hdd
                    by_cases hx : t.x = []
                    · have hbn : badNt t = false := by unfold badNt; rw [hx]; rfl
                      obtain ⟨vb, hvb⟩ : ∃ vb, validB t.k t.n t.t = vb := ⟨_, rfl⟩
                      have hbt : badTm t = !vb := by unfold badTm; rw [if_pos hx, hvb]
                      have hvd := fun W => HVD.out W t
                      rw [show validB t.k t.n (⟨t.t.toArray⟩ : ByteArray).data.toList = vb from hvb] at hvd
                      have HVT := Lib.hid hvd
                      have HBN := Lib.hid hbn
                      have HBT := Lib.hid hbt
                      rw [hx] at u0
                      clear hbn hbt hvb hvd hx
                      cases dd with
                      | true =>
                        go_wp2_with fail
                        go_roundw
                        case rel => exact ⟨p + 1, by omega, by go_num, by rw [HT1.out, ← Bool.or_assoc, HCC.out, HBN.out, Bool.or_false], by rw [HT2.out, ← Bool.or_assoc, HDD.out]; rfl, Lib.hid (balloc HZ.out _)⟩
                        case measure => simp [intOf]; omega
                      | false =>
                        go_wp2_with fail
                        refine (HVT.out _).mono ?_
                        rintro e w4 ⟨rfl, hb4⟩
                        have HZ4 := Lib.hid ((balloc HZ.out (.cells #[.string ⟨#[]⟩, .int .i64 t.k, .int .i64 t.n, .string ⟨t.t.toArray⟩] 106)).trans (hb4.mono (balloc HZ.out _).size))
                        clear hb4
                        go_wp2_with fail
                        go_roundw
                        case rel => exact ⟨p + 1, by omega, by go_num, by rw [HT1.out, ← Bool.or_assoc, HCC.out, HBN.out, Bool.or_false], by rw [HT2.out, ← Bool.or_assoc, HDD.out, HBT.out]; cases vb <;> rfl, HZ4⟩
                        case measure => simp [intOf]; omega
                    · have he := ba_empty hx
                      have he2 : t.x.isEmpty = false := by
                        cases hxx : t.x with
                        | nil => exact absurd hxx hx
                        | cons _ _ => rfl
                      have he3 : (!t.x.isEmpty) = true := by rw [he2]; rfl
                      obtain ⟨xb, hxb⟩ : ∃ xb, isNameB t.x = xb := ⟨_, rfl⟩
                      have hbn : badNt t = !xb := by unfold badNt; rw [decide_eq_true hx, hxb]; rfl
                      have hbt : badTm t = !decide ((⟨t.k, t.n, t.t⟩ : Vl) = ⟨0, 0, []⟩) := by unfold badTm; rw [if_neg hx, ← decide_not]; rfl
                      have hnx2 := fun W => HNA.out W t.x hxl
                      rw [show isNameB (⟨t.x.toArray⟩ : ByteArray).data.toList = xb from hxb] at hnx2
                      have HNX := Lib.hid hnx2
                      have HBN := Lib.hid hbn
                      have HBT := Lib.hid hbt
                      clear hx hbn hxb hnx2 hbt
                      cases cc with
                      | true =>
                        cases dd with
                        | true =>
                          go_wp2_with fail
                          go_roundw
                          case rel => exact ⟨p + 1, by omega, by go_num, by rw [HT1.out, ← Bool.or_assoc, HCC.out]; rfl, by rw [HT2.out, ← Bool.or_assoc, HDD.out]; rfl, Lib.hid (balloc HZ.out _)⟩
                          case measure => simp [intOf]; omega
                        | false =>
                          go_wp2_with fail
                          go_roundw
                          case rel => exact ⟨p + 1, by omega, by go_num, by rw [HT1.out, ← Bool.or_assoc, HCC.out]; rfl, by rw [HT2.out, ← Bool.or_assoc, HDD.out, HBT.out]; simp, Lib.hid (balloc HZ.out _)⟩
                          case measure => simp [intOf]; omega
                      | false =>
                        cases dd with
                        | true =>
                          go_wp2_with fail
                          refine (HNX.out _).mono ?_
                          rintro e w4 ⟨rfl, rfl⟩
                          go_wp2_with fail
                          go_roundw
                          case rel => exact ⟨p + 1, by omega, by go_num, by rw [HT1.out, ← Bool.or_assoc, HCC.out, HBN.out]; cases xb <;> rfl, by rw [HT2.out, ← Bool.or_assoc, HDD.out]; rfl, Lib.hid (balloc HZ.out _)⟩
                          case measure => simp [intOf]; omega
                        | false =>
                          go_wp2_with fail
                          refine (HNX.out _).mono ?_
                          rintro e w4 ⟨rfl, rfl⟩
                          go_wp2_with fail
                          go_roundw
                          case rel => exact ⟨p + 1, by omega, by go_num, by rw [HT1.out, ← Bool.or_assoc, HCC.out, HBN.out]; cases xb <;> rfl, by rw [HT2.out, ← Bool.or_assoc, HDD.out, HBT.out]; simp, Lib.hid (balloc HZ.out _)⟩
                          case measure => simp [intOf]; omega
                  · obtain rfl : p = m := by omega
                    go_wp2_with fail
                    go_roundw
                    case rel =>
                      refine ⟨j + 1, by omega, by go_num, ?_, ?_, ?_, HBZ⟩
                      · rw [List.take_of_length_le (by rw [HM.out]; exact Nat.le_refl _), HS1.out, ← Bool.or_assoc, HBB.out, HB1.out]
                        unfold badNa
                        rw [HRB.out, Bool.or_assoc]
                      · rw [List.take_of_length_le (by rw [HM.out]; exact Nat.le_refl _), HS2.out, HVV.out]
                      · rw [HS3.out, HWW.out, HW2.out, HW5.out]
                        first | (simp; done) | (simp; omega)
                    case measure => simp [intOf]; omega
              | false =>
                go_wp2_with fail
                refine HNR.out.mono ?_
                rintro e w3 ⟨rfl, rfl⟩
                go_wp2_with fail
                go_loopw [3, 5, 8] (fun b v i wr => ∃ p : Nat, p ≤ m ∧ i = .int .i64 p ∧ b = .bool (!(b1 || (a.ts.take p).any badNt)) ∧ v = .bool (!(vv || (a.ts.take p).any badTm)) ∧ Hid (Below wo.heap.size wo wr)) (fun _ _ i _ => m - (intOf i).toNat)
                case atStart => exact ⟨0, Nat.zero_le _, rfl, by rw [HB1.out]; cases rb <;> rfl, by cases vv <;> rfl, Lib.hid (Below.refl _ _)⟩
                case round =>
                  obtain ⟨p, hp, rfl, rfl, rfl, HZ⟩ := hrel
                  have hbz := HW.out.trans (HZ.out.mono HW.out.size)
                  have HBZ := Lib.hid hbz
                  have hxz := HX.out _ hbz
                  have x0 := hxz.cell 0
                  have x1 := hxz.cell 1
                  have x2 := hxz.cell 2
                  have xl := hxz.lt
                  simp only [List.getElem?_toArray, List.getElem?_cons_zero, List.getElem?_cons_succ] at x0 x1 x2
                  have g0 := (HZ.out.cell (p := ⟨b, off + j * 2, none⟩) hbl).trans q0
                  have g1 := (HZ.out.cell (p := ⟨b, off + j * 2 + 1, none⟩) hbl).trans q1
                  have hzl := Nat.lt_of_lt_of_le hbl HZ.out.size
                  clear hxz hbz
                  by_cases hpt : p < m
                  · obtain ⟨t, ht⟩ : ∃ t, a.ts[p]? = some t := ⟨a.ts[p]'(by rw [HM.out]; exact hpt), List.getElem?_eq_getElem (by rw [HM.out]; exact hpt)⟩
                    obtain ⟨tb, to, tcap, htv, _, _, htbl, hce⟩ := (HROW.out.keep HZ.out).get (i := p) (x := t.cells) (by simp [ht])
                    simp only [List.length_map, HM.out, Value.slice.injEq, true_and] at htv
                    obtain ⟨rfl, rfl⟩ := htv
                    have u0 := hce 0 _ rfl
                    have u1 := hce 1 _ rfl
                    have u2 := hce 2 _ rfl
                    have u3 := hce 3 _ rfl
                    simp only [Nat.add_zero] at u0
                    have hxl := HTX.out t (List.mem_of_getElem? ht)
                    have HT1 := Lib.hid (take_any_succ badNt ht)
                    have HT2 := Lib.hid (take_any_succ badTm ht)
                    obtain ⟨cc, hcc⟩ : ∃ cc, (b1 || (a.ts.take p).any badNt) = cc := ⟨_, rfl⟩
                    obtain ⟨dd, hdd⟩ : ∃ dd, (vv || (a.ts.take p).any badTm) = dd := ⟨_, rfl⟩
                    rw [hcc, hdd]
                    have HCC := Lib.hid hcc
                    have HDD := Lib.hid hdd
                    have hpk : decide ((p : Int) < 0) = false := by simp
                    have hpn : decide ((m : Int) ≤ (p : Int)) = false := by simp; omega
                    clear hce ht hcc hdd
                    by_cases hx : t.x = []
                    · have hbn : badNt t = false := by unfold badNt; rw [hx]; rfl
                      obtain ⟨vb, hvb⟩ : ∃ vb, validB t.k t.n t.t = vb := ⟨_, rfl⟩
                      have hbt : badTm t = !vb := by unfold badTm; rw [if_pos hx, hvb]
                      have hvd := fun W => HVD.out W t
                      rw [show validB t.k t.n (⟨t.t.toArray⟩ : ByteArray).data.toList = vb from hvb] at hvd
                      have HVT := Lib.hid hvd
                      have HBN := Lib.hid hbn
                      have HBT := Lib.hid hbt
                      rw [hx] at u0
                      clear hbn hbt hvb hvd hx
                      cases dd with
                      | true =>
                        go_wp2_with fail
                        go_roundw
                        case rel => exact ⟨p + 1, by omega, by go_num, by rw [HT1.out, ← Bool.or_assoc, HCC.out, HBN.out, Bool.or_false], by rw [HT2.out, ← Bool.or_assoc, HDD.out]; rfl, Lib.hid (balloc HZ.out _)⟩
                        case measure => simp [intOf]; omega
                      | false =>
                        go_wp2_with fail
                        refine (HVT.out _).mono ?_
                        rintro e w4 ⟨rfl, hb4⟩
                        have HZ4 := Lib.hid ((balloc HZ.out (.cells #[.string ⟨#[]⟩, .int .i64 t.k, .int .i64 t.n, .string ⟨t.t.toArray⟩] 106)).trans (hb4.mono (balloc HZ.out _).size))
                        clear hb4
                        go_wp2_with fail
                        go_roundw
                        case rel => exact ⟨p + 1, by omega, by go_num, by rw [HT1.out, ← Bool.or_assoc, HCC.out, HBN.out, Bool.or_false], by rw [HT2.out, ← Bool.or_assoc, HDD.out, HBT.out]; cases vb <;> rfl, HZ4⟩
                        case measure => simp [intOf]; omega
                    · have he := ba_empty hx
                      have he2 : t.x.isEmpty = false := by
                        cases hxx : t.x with
                        | nil => exact absurd hxx hx
                        | cons _ _ => rfl
                      have he3 : (!t.x.isEmpty) = true := by rw [he2]; rfl
                      obtain ⟨xb, hxb⟩ : ∃ xb, isNameB t.x = xb := ⟨_, rfl⟩
                      have hbn : badNt t = !xb := by unfold badNt; rw [decide_eq_true hx, hxb]; rfl
                      have hbt : badTm t = !decide ((⟨t.k, t.n, t.t⟩ : Vl) = ⟨0, 0, []⟩) := by unfold badTm; rw [if_neg hx, ← decide_not]; rfl
                      have hnx2 := fun W => HNA.out W t.x hxl
                      rw [show isNameB (⟨t.x.toArray⟩ : ByteArray).data.toList = xb from hxb] at hnx2
                      have HNX := Lib.hid hnx2
                      have HBN := Lib.hid hbn
                      have HBT := Lib.hid hbt
                      clear hx hbn hxb hnx2 hbt
                      cases cc with
                      | true =>
                        cases dd with
                        | true =>
                          go_wp2_with fail
                          go_roundw
                          case rel => exact ⟨p + 1, by omega, by go_num, by rw [HT1.out, ← Bool.or_assoc, HCC.out]; rfl, by rw [HT2.out, ← Bool.or_assoc, HDD.out]; rfl, Lib.hid (balloc HZ.out _)⟩
                          case measure => simp [intOf]; omega
                        | false =>
                          go_wp2_with fail
                          go_roundw
                          case rel => exact ⟨p + 1, by omega, by go_num, by rw [HT1.out, ← Bool.or_assoc, HCC.out]; rfl, by rw [HT2.out, ← Bool.or_assoc, HDD.out, HBT.out]; simp, Lib.hid (balloc HZ.out _)⟩
                          case measure => simp [intOf]; omega
                      | false =>
                        cases dd with
                        | true =>
                          go_wp2_with fail
                          refine (HNX.out _).mono ?_
                          rintro e w4 ⟨rfl, rfl⟩
                          go_wp2_with fail
                          go_roundw
                          case rel => exact ⟨p + 1, by omega, by go_num, by rw [HT1.out, ← Bool.or_assoc, HCC.out, HBN.out]; cases xb <;> rfl, by rw [HT2.out, ← Bool.or_assoc, HDD.out]; rfl, Lib.hid (balloc HZ.out _)⟩
                          case measure => simp [intOf]; omega
                        | false =>
                          go_wp2_with fail
                          refine (HNX.out _).mono ?_
                          rintro e w4 ⟨rfl, rfl⟩
                          go_wp2_with fail
                          go_roundw
                          case rel => exact ⟨p + 1, by omega, by go_num, by rw [HT1.out, ← Bool.or_assoc, HCC.out, HBN.out]; cases xb <;> rfl, by rw [HT2.out, ← Bool.or_assoc, HDD.out, HBT.out]; simp, Lib.hid (balloc HZ.out _)⟩
                          case measure => simp [intOf]; omega
                  · obtain rfl : p = m := by omega
                    go_wp2_with fail
                    go_roundw
                    case rel =>
                      refine ⟨j + 1, by omega, by go_num, ?_, ?_, ?_, HBZ⟩
                      · rw [List.take_of_length_le (by rw [HM.out]; exact Nat.le_refl _), HS1.out, ← Bool.or_assoc, HBB.out, HB1.out]
                        unfold badNa
                        rw [HRB.out, Bool.or_assoc]
                      · rw [List.take_of_length_le (by rw [HM.out]; exact Nat.le_refl _), HS2.out, HVV.out]
                      · rw [HS3.out, HWW.out, HW2.out, HW5.out]
                        first | (simp; done) | (simp; omega)
                    case measure => simp [intOf]; omega
            · have h5i : ¬ (5 : Int) < (m : Int) := by omega
              have HW5 := Lib.hid (show wideA a = false by rw [HWA.out]; simpa using h5)
              cases bb with
              | true =>
                go_wp2_with fail
                go_loopw [3, 5, 8] (fun b v i wr => ∃ p : Nat, p ≤ m ∧ i = .int .i64 p ∧ b = .bool (!(b1 || (a.ts.take p).any badNt)) ∧ v = .bool (!(vv || (a.ts.take p).any badTm)) ∧ Hid (Below wo.heap.size wo wr)) (fun _ _ i _ => m - (intOf i).toNat)
                case atStart => exact ⟨0, Nat.zero_le _, rfl, by rw [HB1.out]; cases rb <;> rfl, by cases vv <;> rfl, Lib.hid (Below.refl _ _)⟩
                case round =>
                  obtain ⟨p, hp, rfl, rfl, rfl, HZ⟩ := hrel
                  have hbz := HW.out.trans (HZ.out.mono HW.out.size)
                  have HBZ := Lib.hid hbz
                  have hxz := HX.out _ hbz
                  have x0 := hxz.cell 0
                  have x1 := hxz.cell 1
                  have x2 := hxz.cell 2
                  have xl := hxz.lt
                  simp only [List.getElem?_toArray, List.getElem?_cons_zero, List.getElem?_cons_succ] at x0 x1 x2
                  have g0 := (HZ.out.cell (p := ⟨b, off + j * 2, none⟩) hbl).trans q0
                  have g1 := (HZ.out.cell (p := ⟨b, off + j * 2 + 1, none⟩) hbl).trans q1
                  have hzl := Nat.lt_of_lt_of_le hbl HZ.out.size
                  clear hxz hbz
                  by_cases hpt : p < m
                  · obtain ⟨t, ht⟩ : ∃ t, a.ts[p]? = some t := ⟨a.ts[p]'(by rw [HM.out]; exact hpt), List.getElem?_eq_getElem (by rw [HM.out]; exact hpt)⟩
                    obtain ⟨tb, to, tcap, htv, _, _, htbl, hce⟩ := (HROW.out.keep HZ.out).get (i := p) (x := t.cells) (by simp [ht])
                    simp only [List.length_map, HM.out, Value.slice.injEq, true_and] at htv
                    obtain ⟨rfl, rfl⟩ := htv
                    have u0 := hce 0 _ rfl
                    have u1 := hce 1 _ rfl
                    have u2 := hce 2 _ rfl
                    have u3 := hce 3 _ rfl
                    simp only [Nat.add_zero] at u0
                    have hxl := HTX.out t (List.mem_of_getElem? ht)
                    have HT1 := Lib.hid (take_any_succ badNt ht)
                    have HT2 := Lib.hid (take_any_succ badTm ht)
                    obtain ⟨cc, hcc⟩ : ∃ cc, (b1 || (a.ts.take p).any badNt) = cc := ⟨_, rfl⟩
                    obtain ⟨dd, hdd⟩ : ∃ dd, (vv || (a.ts.take p).any badTm) = dd := ⟨_, rfl⟩
                    rw [hcc, hdd]
                    have HCC := Lib.hid hcc
                    have HDD := Lib.hid hdd
                    have hpk : decide ((p : Int) < 0) = false := by simp
                    have hpn : decide ((m : Int) ≤ (p : Int)) = false := by simp; omega
                    clear hce ht hcc hdd
                    by_cases hx : t.x = []
                    · have hbn : badNt t = false := by unfold badNt; rw [hx]; rfl
                      obtain ⟨vb, hvb⟩ : ∃ vb, validB t.k t.n t.t = vb := ⟨_, rfl⟩
                      have hbt : badTm t = !vb := by unfold badTm; rw [if_pos hx, hvb]
                      have hvd := fun W => HVD.out W t
                      rw [show validB t.k t.n (⟨t.t.toArray⟩ : ByteArray).data.toList = vb from hvb] at hvd
                      have HVT := Lib.hid hvd
                      have HBN := Lib.hid hbn
                      have HBT := Lib.hid hbt
                      rw [hx] at u0
                      clear hbn hbt hvb hvd hx
                      cases dd with
                      | true =>
                        go_wp2_with fail
                        go_roundw
                        case rel => exact ⟨p + 1, by omega, by go_num, by rw [HT1.out, ← Bool.or_assoc, HCC.out, HBN.out, Bool.or_false], by rw [HT2.out, ← Bool.or_assoc, HDD.out]; rfl, Lib.hid (balloc HZ.out _)⟩
                        case measure => simp [intOf]; omega
                      | false =>
                        go_wp2_with fail
                        refine (HVT.out _).mono ?_
                        rintro e w4 ⟨rfl, hb4⟩
                        have HZ4 := Lib.hid ((balloc HZ.out (.cells #[.string ⟨#[]⟩, .int .i64 t.k, .int .i64 t.n, .string ⟨t.t.toArray⟩] 106)).trans (hb4.mono (balloc HZ.out _).size))
                        clear hb4
                        go_wp2_with fail
                        go_roundw
                        case rel => exact ⟨p + 1, by omega, by go_num, by rw [HT1.out, ← Bool.or_assoc, HCC.out, HBN.out, Bool.or_false], by rw [HT2.out, ← Bool.or_assoc, HDD.out, HBT.out]; cases vb <;> rfl, HZ4⟩
                        case measure => simp [intOf]; omega
                    · have he := ba_empty hx
                      have he2 : t.x.isEmpty = false := by
                        cases hxx : t.x with
                        | nil => exact absurd hxx hx
                        | cons _ _ => rfl
                      have he3 : (!t.x.isEmpty) = true := by rw [he2]; rfl
                      obtain ⟨xb, hxb⟩ : ∃ xb, isNameB t.x = xb := ⟨_, rfl⟩
                      have hbn : badNt t = !xb := by unfold badNt; rw [decide_eq_true hx, hxb]; rfl
                      have hbt : badTm t = !decide ((⟨t.k, t.n, t.t⟩ : Vl) = ⟨0, 0, []⟩) := by unfold badTm; rw [if_neg hx, ← decide_not]; rfl
                      have hnx2 := fun W => HNA.out W t.x hxl
                      rw [show isNameB (⟨t.x.toArray⟩ : ByteArray).data.toList = xb from hxb] at hnx2
                      have HNX := Lib.hid hnx2
                      have HBN := Lib.hid hbn
                      have HBT := Lib.hid hbt
                      clear hx hbn hxb hnx2 hbt
                      cases cc with
                      | true =>
                        cases dd with
                        | true =>
                          go_wp2_with fail
                          go_roundw
                          case rel => exact ⟨p + 1, by omega, by go_num, by rw [HT1.out, ← Bool.or_assoc, HCC.out]; rfl, by rw [HT2.out, ← Bool.or_assoc, HDD.out]; rfl, Lib.hid (balloc HZ.out _)⟩
                          case measure => simp [intOf]; omega
                        | false =>
                          go_wp2_with fail
                          go_roundw
                          case rel => exact ⟨p + 1, by omega, by go_num, by rw [HT1.out, ← Bool.or_assoc, HCC.out]; rfl, by rw [HT2.out, ← Bool.or_assoc, HDD.out, HBT.out]; simp, Lib.hid (balloc HZ.out _)⟩
                          case measure => simp [intOf]; omega
                      | false =>
                        cases dd with
                        | true =>
                          go_wp2_with fail
                          refine (HNX.out _).mono ?_
                          rintro e w4 ⟨rfl, rfl⟩
                          go_wp2_with fail
                          go_roundw
                          case rel => exact ⟨p + 1, by omega, by go_num, by rw [HT1.out, ← Bool.or_assoc, HCC.out, HBN.out]; cases xb <;> rfl, by rw [HT2.out, ← Bool.or_assoc, HDD.out]; rfl, Lib.hid (balloc HZ.out _)⟩
                          case measure => simp [intOf]; omega
                        | false =>
                          go_wp2_with fail
                          refine (HNX.out _).mono ?_
                          rintro e w4 ⟨rfl, rfl⟩
                          go_wp2_with fail
                          go_roundw
                          case rel => exact ⟨p + 1, by omega, by go_num, by rw [HT1.out, ← Bool.or_assoc, HCC.out, HBN.out]; cases xb <;> rfl, by rw [HT2.out, ← Bool.or_assoc, HDD.out, HBT.out]; simp, Lib.hid (balloc HZ.out _)⟩
                          case measure => simp [intOf]; omega
                  · obtain rfl : p = m := by omega
                    go_wp2_with fail
                    go_roundw
                    case rel =>
                      refine ⟨j + 1, by omega, by go_num, ?_, ?_, ?_, HBZ⟩
                      · rw [List.take_of_length_le (by rw [HM.out]; exact Nat.le_refl _), HS1.out, ← Bool.or_assoc, HBB.out, HB1.out]
                        unfold badNa
                        rw [HRB.out, Bool.or_assoc]
                      · rw [List.take_of_length_le (by rw [HM.out]; exact Nat.le_refl _), HS2.out, HVV.out]
                      · rw [HS3.out, HWW.out, HW2.out, HW5.out]
                        first | (simp; done) | (simp; omega)
                    case measure => simp [intOf]; omega
              | false =>
                go_wp2_with fail
                refine HNR.out.mono ?_
                rintro e w3 ⟨rfl, rfl⟩
                go_wp2_with fail
                go_loopw [3, 5, 8] (fun b v i wr => ∃ p : Nat, p ≤ m ∧ i = .int .i64 p ∧ b = .bool (!(b1 || (a.ts.take p).any badNt)) ∧ v = .bool (!(vv || (a.ts.take p).any badTm)) ∧ Hid (Below wo.heap.size wo wr)) (fun _ _ i _ => m - (intOf i).toNat)
                case atStart => exact ⟨0, Nat.zero_le _, rfl, by rw [HB1.out]; cases rb <;> rfl, by cases vv <;> rfl, Lib.hid (Below.refl _ _)⟩
                case round =>
                  obtain ⟨p, hp, rfl, rfl, rfl, HZ⟩ := hrel
                  have hbz := HW.out.trans (HZ.out.mono HW.out.size)
                  have HBZ := Lib.hid hbz
                  have hxz := HX.out _ hbz
                  have x0 := hxz.cell 0
                  have x1 := hxz.cell 1
                  have x2 := hxz.cell 2
                  have xl := hxz.lt
                  simp only [List.getElem?_toArray, List.getElem?_cons_zero, List.getElem?_cons_succ] at x0 x1 x2
                  have g0 := (HZ.out.cell (p := ⟨b, off + j * 2, none⟩) hbl).trans q0
                  have g1 := (HZ.out.cell (p := ⟨b, off + j * 2 + 1, none⟩) hbl).trans q1
                  have hzl := Nat.lt_of_lt_of_le hbl HZ.out.size
                  clear hxz hbz
                  by_cases hpt : p < m
                  · obtain ⟨t, ht⟩ : ∃ t, a.ts[p]? = some t := ⟨a.ts[p]'(by rw [HM.out]; exact hpt), List.getElem?_eq_getElem (by rw [HM.out]; exact hpt)⟩
                    obtain ⟨tb, to, tcap, htv, _, _, htbl, hce⟩ := (HROW.out.keep HZ.out).get (i := p) (x := t.cells) (by simp [ht])
                    simp only [List.length_map, HM.out, Value.slice.injEq, true_and] at htv
                    obtain ⟨rfl, rfl⟩ := htv
                    have u0 := hce 0 _ rfl
                    have u1 := hce 1 _ rfl
                    have u2 := hce 2 _ rfl
                    have u3 := hce 3 _ rfl
                    simp only [Nat.add_zero] at u0
                    have hxl := HTX.out t (List.mem_of_getElem? ht)
                    have HT1 := Lib.hid (take_any_succ badNt ht)
                    have HT2 := Lib.hid (take_any_succ badTm ht)
                    obtain ⟨cc, hcc⟩ : ∃ cc, (b1 || (a.ts.take p).any badNt) = cc := ⟨_, rfl⟩
                    obtain ⟨dd, hdd⟩ : ∃ dd, (vv || (a.ts.take p).any badTm) = dd := ⟨_, rfl⟩
                    rw [hcc, hdd]
                    have HCC := Lib.hid hcc
                    have HDD := Lib.hid hdd
                    have hpk : decide ((p : Int) < 0) = false := by simp
                    have hpn : decide ((m : Int) ≤ (p : Int)) = false := by simp; omega
                    clear hce ht hcc hdd
                    by_cases hx : t.x = []
                    · have hbn : badNt t = false := by unfold badNt; rw [hx]; rfl
                      obtain ⟨vb, hvb⟩ : ∃ vb, validB t.k t.n t.t = vb := ⟨_, rfl⟩
                      have hbt : badTm t = !vb := by unfold badTm; rw [if_pos hx, hvb]
                      have hvd := fun W => HVD.out W t
                      rw [show validB t.k t.n (⟨t.t.toArray⟩ : ByteArray).data.toList = vb from hvb] at hvd
                      have HVT := Lib.hid hvd
                      have HBN := Lib.hid hbn
                      have HBT := Lib.hid hbt
                      rw [hx] at u0
                      clear hbn hbt hvb hvd hx
                      cases dd with
                      | true =>
                        go_wp2_with fail
                        go_roundw
                        case rel => exact ⟨p + 1, by omega, by go_num, by rw [HT1.out, ← Bool.or_assoc, HCC.out, HBN.out, Bool.or_false], by rw [HT2.out, ← Bool.or_assoc, HDD.out]; rfl, Lib.hid (balloc HZ.out _)⟩
                        case measure => simp [intOf]; omega
                      | false =>
                        go_wp2_with fail
                        refine (HVT.out _).mono ?_
                        rintro e w4 ⟨rfl, hb4⟩
                        have HZ4 := Lib.hid ((balloc HZ.out (.cells #[.string ⟨#[]⟩, .int .i64 t.k, .int .i64 t.n, .string ⟨t.t.toArray⟩] 106)).trans (hb4.mono (balloc HZ.out _).size))
                        clear hb4
                        go_wp2_with fail
                        go_roundw
                        case rel => exact ⟨p + 1, by omega, by go_num, by rw [HT1.out, ← Bool.or_assoc, HCC.out, HBN.out, Bool.or_false], by rw [HT2.out, ← Bool.or_assoc, HDD.out, HBT.out]; cases vb <;> rfl, HZ4⟩
                        case measure => simp [intOf]; omega
                    · have he := ba_empty hx
                      have he2 : t.x.isEmpty = false := by
                        cases hxx : t.x with
                        | nil => exact absurd hxx hx
                        | cons _ _ => rfl
                      have he3 : (!t.x.isEmpty) = true := by rw [he2]; rfl
                      obtain ⟨xb, hxb⟩ : ∃ xb, isNameB t.x = xb := ⟨_, rfl⟩
                      have hbn : badNt t = !xb := by unfold badNt; rw [decide_eq_true hx, hxb]; rfl
                      have hbt : badTm t = !decide ((⟨t.k, t.n, t.t⟩ : Vl) = ⟨0, 0, []⟩) := by unfold badTm; rw [if_neg hx, ← decide_not]; rfl
                      have hnx2 := fun W => HNA.out W t.x hxl
                      rw [show isNameB (⟨t.x.toArray⟩ : ByteArray).data.toList = xb from hxb] at hnx2
                      have HNX := Lib.hid hnx2
                      have HBN := Lib.hid hbn
                      have HBT := Lib.hid hbt
                      clear hx hbn hxb hnx2 hbt
                      cases cc with
                      | true =>
                        cases dd with
                        | true =>
                          go_wp2_with fail
                          go_roundw
                          case rel => exact ⟨p + 1, by omega, by go_num, by rw [HT1.out, ← Bool.or_assoc, HCC.out]; rfl, by rw [HT2.out, ← Bool.or_assoc, HDD.out]; rfl, Lib.hid (balloc HZ.out _)⟩
                          case measure => simp [intOf]; omega
                        | false =>
                          go_wp2_with fail
                          go_roundw
                          case rel => exact ⟨p + 1, by omega, by go_num, by rw [HT1.out, ← Bool.or_assoc, HCC.out]; rfl, by rw [HT2.out, ← Bool.or_assoc, HDD.out, HBT.out]; simp, Lib.hid (balloc HZ.out _)⟩
                          case measure => simp [intOf]; omega
                      | false =>
                        cases dd with
                        | true =>
                          go_wp2_with fail
                          refine (HNX.out _).mono ?_
                          rintro e w4 ⟨rfl, rfl⟩
                          go_wp2_with fail
                          go_roundw
                          case rel => exact ⟨p + 1, by omega, by go_num, by rw [HT1.out, ← Bool.or_assoc, HCC.out, HBN.out]; cases xb <;> rfl, by rw [HT2.out, ← Bool.or_assoc, HDD.out]; rfl, Lib.hid (balloc HZ.out _)⟩
                          case measure => simp [intOf]; omega
                        | false =>
                          go_wp2_with fail
                          refine (HNX.out _).mono ?_
                          rintro e w4 ⟨rfl, rfl⟩
                          go_wp2_with fail
                          go_roundw
                          case rel => exact ⟨p + 1, by omega, by go_num, by rw [HT1.out, ← Bool.or_assoc, HCC.out, HBN.out]; cases xb <;> rfl, by rw [HT2.out, ← Bool.or_assoc, HDD.out, HBT.out]; simp, Lib.hid (balloc HZ.out _)⟩
                          case measure => simp [intOf]; omega
                  · obtain rfl : p = m := by omega
                    go_wp2_with fail
                    go_roundw
                    case rel =>
                      refine ⟨j + 1, by omega, by go_num, ?_, ?_, ?_, HBZ⟩
                      · rw [List.take_of_length_le (by rw [HM.out]; exact Nat.le_refl _), HS1.out, ← Bool.or_assoc, HBB.out, HB1.out]
                        unfold badNa
                        rw [HRB.out, Bool.or_assoc]
                      · rw [List.take_of_length_le (by rw [HM.out]; exact Nat.le_refl _), HS2.out, HVV.out]
                      · rw [HS3.out, HWW.out, HW2.out, HW5.out]
                        first | (simp; done) | (simp; omega)
                    case measure => simp [intOf]; omega
          · have HW5 := HWA
            cases bb with
            | true =>
              go_wp2_with fail
              go_loopw [3, 5, 8] (fun b v i wr => ∃ p : Nat, p ≤ m ∧ i = .int .i64 p ∧ b = .bool (!(b1 || (a.ts.take p).any badNt)) ∧ v = .bool (!(vv || (a.ts.take p).any badTm)) ∧ Hid (Below wo.heap.size wo wr)) (fun _ _ i _ => m - (intOf i).toNat)
              case atStart => exact ⟨0, Nat.zero_le _, rfl, by rw [HB1.out]; cases rb <;> rfl, by cases vv <;> rfl, Lib.hid (Below.refl _ _)⟩
              case round =>
                obtain ⟨p, hp, rfl, rfl, rfl, HZ⟩ := hrel
                have hbz := HW.out.trans (HZ.out.mono HW.out.size)
                have HBZ := Lib.hid hbz
                have hxz := HX.out _ hbz
                have x0 := hxz.cell 0
                have x1 := hxz.cell 1
                have x2 := hxz.cell 2
                have xl := hxz.lt
                simp only [List.getElem?_toArray, List.getElem?_cons_zero, List.getElem?_cons_succ] at x0 x1 x2
                have g0 := (HZ.out.cell (p := ⟨b, off + j * 2, none⟩) hbl).trans q0
                have g1 := (HZ.out.cell (p := ⟨b, off + j * 2 + 1, none⟩) hbl).trans q1
                have hzl := Nat.lt_of_lt_of_le hbl HZ.out.size
                clear hxz hbz
                by_cases hpt : p < m
                · obtain ⟨t, ht⟩ : ∃ t, a.ts[p]? = some t := ⟨a.ts[p]'(by rw [HM.out]; exact hpt), List.getElem?_eq_getElem (by rw [HM.out]; exact hpt)⟩
                  obtain ⟨tb, to, tcap, htv, _, _, htbl, hce⟩ := (HROW.out.keep HZ.out).get (i := p) (x := t.cells) (by simp [ht])
                  simp only [List.length_map, HM.out, Value.slice.injEq, true_and] at htv
                  obtain ⟨rfl, rfl⟩ := htv
                  have u0 := hce 0 _ rfl
                  have u1 := hce 1 _ rfl
                  have u2 := hce 2 _ rfl
                  have u3 := hce 3 _ rfl
                  simp only [Nat.add_zero] at u0
                  have hxl := HTX.out t (List.mem_of_getElem? ht)
                  have HT1 := Lib.hid (take_any_succ badNt ht)
                  have HT2 := Lib.hid (take_any_succ badTm ht)
                  obtain ⟨cc, hcc⟩ : ∃ cc, (b1 || (a.ts.take p).any badNt) = cc := ⟨_, rfl⟩
                  obtain ⟨dd, hdd⟩ : ∃ dd, (vv || (a.ts.take p).any badTm) = dd := ⟨_, rfl⟩
                  rw [hcc, hdd]
                  have HCC := Lib.hid hcc
                  have HDD := Lib.hid hdd
                  have hpk : decide ((p : Int) < 0) = false := by simp
                  have hpn : decide ((m : Int) ≤ (p : Int)) = false := by simp; omega
                  clear hce ht hcc hdd
                  by_cases hx : t.x = []
                  · have hbn : badNt t = false := by unfold badNt; rw [hx]; rfl
                    obtain ⟨vb, hvb⟩ : ∃ vb, validB t.k t.n t.t = vb := ⟨_, rfl⟩
                    have hbt : badTm t = !vb := by unfold badTm; rw [if_pos hx, hvb]
                    have hvd := fun W => HVD.out W t
                    rw [show validB t.k t.n (⟨t.t.toArray⟩ : ByteArray).data.toList = vb from hvb] at hvd
                    have HVT := Lib.hid hvd
                    have HBN := Lib.hid hbn
                    have HBT := Lib.hid hbt
                    rw [hx] at u0
                    clear hbn hbt hvb hvd hx
                    cases dd with
                    | true =>
                      go_wp2_with fail
                      go_roundw
                      case rel => exact ⟨p + 1, by omega, by go_num, by rw [HT1.out, ← Bool.or_assoc, HCC.out, HBN.out, Bool.or_false], by rw [HT2.out, ← Bool.or_assoc, HDD.out]; rfl, Lib.hid (balloc HZ.out _)⟩
                      case measure => simp [intOf]; omega
                    | false =>
                      go_wp2_with fail
                      refine (HVT.out _).mono ?_
                      rintro e w4 ⟨rfl, hb4⟩
                      have HZ4 := Lib.hid ((balloc HZ.out (.cells #[.string ⟨#[]⟩, .int .i64 t.k, .int .i64 t.n, .string ⟨t.t.toArray⟩] 106)).trans (hb4.mono (balloc HZ.out _).size))
                      clear hb4
                      go_wp2_with fail
                      go_roundw
                      case rel => exact ⟨p + 1, by omega, by go_num, by rw [HT1.out, ← Bool.or_assoc, HCC.out, HBN.out, Bool.or_false], by rw [HT2.out, ← Bool.or_assoc, HDD.out, HBT.out]; cases vb <;> rfl, HZ4⟩
                      case measure => simp [intOf]; omega
                  · have he := ba_empty hx
                    have he2 : t.x.isEmpty = false := by
                      cases hxx : t.x with
                      | nil => exact absurd hxx hx
                      | cons _ _ => rfl
                    have he3 : (!t.x.isEmpty) = true := by rw [he2]; rfl
                    obtain ⟨xb, hxb⟩ : ∃ xb, isNameB t.x = xb := ⟨_, rfl⟩
                    have hbn : badNt t = !xb := by unfold badNt; rw [decide_eq_true hx, hxb]; rfl
                    have hbt : badTm t = !decide ((⟨t.k, t.n, t.t⟩ : Vl) = ⟨0, 0, []⟩) := by unfold badTm; rw [if_neg hx, ← decide_not]; rfl
                    have hnx2 := fun W => HNA.out W t.x hxl
                    rw [show isNameB (⟨t.x.toArray⟩ : ByteArray).data.toList = xb from hxb] at hnx2
                    have HNX := Lib.hid hnx2
                    have HBN := Lib.hid hbn
                    have HBT := Lib.hid hbt
                    clear hx hbn hxb hnx2 hbt
                    cases cc with
                    | true =>
                      cases dd with
                      | true =>
                        go_wp2_with fail
                        go_roundw
                        case rel => exact ⟨p + 1, by omega, by go_num, by rw [HT1.out, ← Bool.or_assoc, HCC.out]; rfl, by rw [HT2.out, ← Bool.or_assoc, HDD.out]; rfl, Lib.hid (balloc HZ.out _)⟩
                        case measure => simp [intOf]; omega
                      | false =>
                        go_wp2_with fail
                        go_roundw
                        case rel => exact ⟨p + 1, by omega, by go_num, by rw [HT1.out, ← Bool.or_assoc, HCC.out]; rfl, by rw [HT2.out, ← Bool.or_assoc, HDD.out, HBT.out]; simp, Lib.hid (balloc HZ.out _)⟩
                        case measure => simp [intOf]; omega
                    | false =>
                      cases dd with
                      | true =>
                        go_wp2_with fail
                        refine (HNX.out _).mono ?_
                        rintro e w4 ⟨rfl, rfl⟩
                        go_wp2_with fail
                        go_roundw
                        case rel => exact ⟨p + 1, by omega, by go_num, by rw [HT1.out, ← Bool.or_assoc, HCC.out, HBN.out]; cases xb <;> rfl, by rw [HT2.out, ← Bool.or_assoc, HDD.out]; rfl, Lib.hid (balloc HZ.out _)⟩
                        case measure => simp [intOf]; omega
                      | false =>
                        go_wp2_with fail
                        refine (HNX.out _).mono ?_
                        rintro e w4 ⟨rfl, rfl⟩
                        go_wp2_with fail
                        go_roundw
                        case rel => exact ⟨p + 1, by omega, by go_num, by rw [HT1.out, ← Bool.or_assoc, HCC.out, HBN.out]; cases xb <;> rfl, by rw [HT2.out, ← Bool.or_assoc, HDD.out, HBT.out]; simp, Lib.hid (balloc HZ.out _)⟩
                        case measure => simp [intOf]; omega
                · obtain rfl : p = m := by omega
                  go_wp2_with fail
                  go_roundw
                  case rel =>
                    refine ⟨j + 1, by omega, by go_num, ?_, ?_, ?_, HBZ⟩
                    · rw [List.take_of_length_le (by rw [HM.out]; exact Nat.le_refl _), HS1.out, ← Bool.or_assoc, HBB.out, HB1.out]
                      unfold badNa
                      rw [HRB.out, Bool.or_assoc]
                    · rw [List.take_of_length_le (by rw [HM.out]; exact Nat.le_refl _), HS2.out, HVV.out]
                    · rw [HS3.out, HWW.out, HW2.out, HW5.out]
                      first | (simp; done) | (simp; omega)
                  case measure => simp [intOf]; omega
            | false =>
              go_wp2_with fail
              refine HNR.out.mono ?_
              rintro e w3 ⟨rfl, rfl⟩
              go_wp2_with fail
              go_loopw [3, 5, 8] (fun b v i wr => ∃ p : Nat, p ≤ m ∧ i = .int .i64 p ∧ b = .bool (!(b1 || (a.ts.take p).any badNt)) ∧ v = .bool (!(vv || (a.ts.take p).any badTm)) ∧ Hid (Below wo.heap.size wo wr)) (fun _ _ i _ => m - (intOf i).toNat)
              case atStart => exact ⟨0, Nat.zero_le _, rfl, by rw [HB1.out]; cases rb <;> rfl, by cases vv <;> rfl, Lib.hid (Below.refl _ _)⟩
              case round =>
                obtain ⟨p, hp, rfl, rfl, rfl, HZ⟩ := hrel
                have hbz := HW.out.trans (HZ.out.mono HW.out.size)
                have HBZ := Lib.hid hbz
                have hxz := HX.out _ hbz
                have x0 := hxz.cell 0
                have x1 := hxz.cell 1
                have x2 := hxz.cell 2
                have xl := hxz.lt
                simp only [List.getElem?_toArray, List.getElem?_cons_zero, List.getElem?_cons_succ] at x0 x1 x2
                have g0 := (HZ.out.cell (p := ⟨b, off + j * 2, none⟩) hbl).trans q0
                have g1 := (HZ.out.cell (p := ⟨b, off + j * 2 + 1, none⟩) hbl).trans q1
                have hzl := Nat.lt_of_lt_of_le hbl HZ.out.size
                clear hxz hbz
                by_cases hpt : p < m
                · obtain ⟨t, ht⟩ : ∃ t, a.ts[p]? = some t := ⟨a.ts[p]'(by rw [HM.out]; exact hpt), List.getElem?_eq_getElem (by rw [HM.out]; exact hpt)⟩
                  obtain ⟨tb, to, tcap, htv, _, _, htbl, hce⟩ := (HROW.out.keep HZ.out).get (i := p) (x := t.cells) (by simp [ht])
                  simp only [List.length_map, HM.out, Value.slice.injEq, true_and] at htv
                  obtain ⟨rfl, rfl⟩ := htv
                  have u0 := hce 0 _ rfl
                  have u1 := hce 1 _ rfl
                  have u2 := hce 2 _ rfl
                  have u3 := hce 3 _ rfl
                  simp only [Nat.add_zero] at u0
                  have hxl := HTX.out t (List.mem_of_getElem? ht)
                  have HT1 := Lib.hid (take_any_succ badNt ht)
                  have HT2 := Lib.hid (take_any_succ badTm ht)
                  obtain ⟨cc, hcc⟩ : ∃ cc, (b1 || (a.ts.take p).any badNt) = cc := ⟨_, rfl⟩
                  obtain ⟨dd, hdd⟩ : ∃ dd, (vv || (a.ts.take p).any badTm) = dd := ⟨_, rfl⟩
                  rw [hcc, hdd]
                  have HCC := Lib.hid hcc
                  have HDD := Lib.hid hdd
                  have hpk : decide ((p : Int) < 0) = false := by simp
                  have hpn : decide ((m : Int) ≤ (p : Int)) = false := by simp; omega
                  clear hce ht hcc hdd
                  by_cases hx : t.x = []
                  · have hbn : badNt t = false := by unfold badNt; rw [hx]; rfl
                    obtain ⟨vb, hvb⟩ : ∃ vb, validB t.k t.n t.t = vb := ⟨_, rfl⟩
                    have hbt : badTm t = !vb := by unfold badTm; rw [if_pos hx, hvb]
                    have hvd := fun W => HVD.out W t
                    rw [show validB t.k t.n (⟨t.t.toArray⟩ : ByteArray).data.toList = vb from hvb] at hvd
                    have HVT := Lib.hid hvd
                    have HBN := Lib.hid hbn
                    have HBT := Lib.hid hbt
                    rw [hx] at u0
                    clear hbn hbt hvb hvd hx
                    cases dd with
                    | true =>
                      go_wp2_with fail
                      go_roundw
                      case rel => exact ⟨p + 1, by omega, by go_num, by rw [HT1.out, ← Bool.or_assoc, HCC.out, HBN.out, Bool.or_false], by rw [HT2.out, ← Bool.or_assoc, HDD.out]; rfl, Lib.hid (balloc HZ.out _)⟩
                      case measure => simp [intOf]; omega
                    | false =>
                      go_wp2_with fail
                      refine (HVT.out _).mono ?_
                      rintro e w4 ⟨rfl, hb4⟩
                      have HZ4 := Lib.hid ((balloc HZ.out (.cells #[.string ⟨#[]⟩, .int .i64 t.k, .int .i64 t.n, .string ⟨t.t.toArray⟩] 106)).trans (hb4.mono (balloc HZ.out _).size))
                      clear hb4
                      go_wp2_with fail
                      go_roundw
                      case rel => exact ⟨p + 1, by omega, by go_num, by rw [HT1.out, ← Bool.or_assoc, HCC.out, HBN.out, Bool.or_false], by rw [HT2.out, ← Bool.or_assoc, HDD.out, HBT.out]; cases vb <;> rfl, HZ4⟩
                      case measure => simp [intOf]; omega
                  · have he := ba_empty hx
                    have he2 : t.x.isEmpty = false := by
                      cases hxx : t.x with
                      | nil => exact absurd hxx hx
                      | cons _ _ => rfl
                    have he3 : (!t.x.isEmpty) = true := by rw [he2]; rfl
                    obtain ⟨xb, hxb⟩ : ∃ xb, isNameB t.x = xb := ⟨_, rfl⟩
                    have hbn : badNt t = !xb := by unfold badNt; rw [decide_eq_true hx, hxb]; rfl
                    have hbt : badTm t = !decide ((⟨t.k, t.n, t.t⟩ : Vl) = ⟨0, 0, []⟩) := by unfold badTm; rw [if_neg hx, ← decide_not]; rfl
                    have hnx2 := fun W => HNA.out W t.x hxl
                    rw [show isNameB (⟨t.x.toArray⟩ : ByteArray).data.toList = xb from hxb] at hnx2
                    have HNX := Lib.hid hnx2
                    have HBN := Lib.hid hbn
                    have HBT := Lib.hid hbt
                    clear hx hbn hxb hnx2 hbt
                    cases cc with
                    | true =>
                      cases dd with
                      | true =>
                        go_wp2_with fail
                        go_roundw
                        case rel => exact ⟨p + 1, by omega, by go_num, by rw [HT1.out, ← Bool.or_assoc, HCC.out]; rfl, by rw [HT2.out, ← Bool.or_assoc, HDD.out]; rfl, Lib.hid (balloc HZ.out _)⟩
                        case measure => simp [intOf]; omega
                      | false =>
                        go_wp2_with fail
                        go_roundw
                        case rel => exact ⟨p + 1, by omega, by go_num, by rw [HT1.out, ← Bool.or_assoc, HCC.out]; rfl, by rw [HT2.out, ← Bool.or_assoc, HDD.out, HBT.out]; simp, Lib.hid (balloc HZ.out _)⟩
                        case measure => simp [intOf]; omega
                    | false =>
                      cases dd with
                      | true =>
                        go_wp2_with fail
                        refine (HNX.out _).mono ?_
                        rintro e w4 ⟨rfl, rfl⟩
                        go_wp2_with fail
                        go_roundw
                        case rel => exact ⟨p + 1, by omega, by go_num, by rw [HT1.out, ← Bool.or_assoc, HCC.out, HBN.out]; cases xb <;> rfl, by rw [HT2.out, ← Bool.or_assoc, HDD.out]; rfl, Lib.hid (balloc HZ.out _)⟩
                        case measure => simp [intOf]; omega
                      | false =>
                        go_wp2_with fail
                        refine (HNX.out _).mono ?_
                        rintro e w4 ⟨rfl, rfl⟩
                        go_wp2_with fail
                        go_roundw
                        case rel => exact ⟨p + 1, by omega, by go_num, by rw [HT1.out, ← Bool.or_assoc, HCC.out, HBN.out]; cases xb <;> rfl, by rw [HT2.out, ← Bool.or_assoc, HDD.out, HBT.out]; simp, Lib.hid (balloc HZ.out _)⟩
                        case measure => simp [intOf]; omega
                · obtain rfl : p = m := by omega
                  go_wp2_with fail
                  go_roundw
                  case rel =>
                    refine ⟨j + 1, by omega, by go_num, ?_, ?_, ?_, HBZ⟩
                    · rw [List.take_of_length_le (by rw [HM.out]; exact Nat.le_refl _), HS1.out, ← Bool.or_assoc, HBB.out, HB1.out]
                      unfold badNa
                      rw [HRB.out, Bool.or_assoc]
                    · rw [List.take_of_length_le (by rw [HM.out]; exact Nat.le_refl _), HS2.out, HVV.out]
                    · rw [HS3.out, HWW.out, HW2.out, HW5.out]
                      first | (simp; done) | (simp; omega)
                  case measure => simp [intOf]; omega
        · obtain rfl : j = n := by omega
          rw [List.take_of_length_le (by rw [HN.out]; exact Nat.le_refl _)]
          generalize (N0 || al.any badNa) = B1 at *
          generalize al.any wideA = B3 at *
          generalize (al.any fun a => a.ts.any badTm) = B2 at *
          have BB := Lib.hid (HB0.out.trans (HW.out.mono HB0.out.size))
          have hq := HQ.out
          cases B1 with
          | true =>
            rw [if_pos rfl] at hq
            have HQ := Lib.hid hq
            clear hq
            go_wp2_with fail
            go_ret
            exact ⟨by rw [HQ.out]; rfl, BB.out⟩
          | false =>
          rw [if_neg (by decide)] at hq
          have HQ := Lib.hid hq
          clear hq
          have hq := HQ.out
          cases B2 with
          | true =>
            rw [if_pos rfl] at hq
            have HQ := Lib.hid hq
            clear hq
            go_wp2_with fail
            go_ret
            exact ⟨by rw [HQ.out]; rfl, BB.out⟩
          | false =>
          rw [if_neg (by decide)] at hq
          have HQ := Lib.hid hq
          clear hq
          by_cases hz : j = 0
          · have hq := HQ.out
            rw [if_pos (.inl hz)] at hq
            have HQ := Lib.hid hq
            clear hq
            subst hz
            go_wp2_with fail
            go_ret
            exact ⟨by rw [HQ.out]; rfl, BB.out⟩
          have z1 : decide ((j : Int) < 1) = false := by simp; omega
          have z2 : ¬ ((j : Int) < 1) := by omega
          have z3 : ¬ j < 1 := by omega
          by_cases h6 : 6 < j
          · have hq := HQ.out
            rw [if_pos (.inr h6)] at hq
            have HQ := Lib.hid hq
            have hd : (6 : Int) < (j : Int) := by omega
            clear hq
            go_wp2_with fail
            go_ret
            exact ⟨by rw [HQ.out]; rfl, BB.out⟩
          have hq := HQ.out
          rw [if_neg (by omega)] at hq
          have HQ := Lib.hid hq
          have hd1 : ¬ ((6 : Int) < (j : Int)) := by omega
          have hd2 : (j : Int) ≤ 6 := by omega
          clear hq
          have hq := HQ.out
          cases B3 with
          | true =>
            rw [if_pos rfl] at hq
            have HQ := Lib.hid hq
            clear hq
            go_wp2_with fail
            go_ret
            exact ⟨by rw [HQ.out]; rfl, BB.out⟩
          | false =>
          rw [if_neg (by decide)] at hq
          have HQ := Lib.hid hq
          have hvs := HVS.out (by omega) (by trivial)
          clear hq
          go_wp2_with fail
          go_loopw [10] (fun i wr => ∃ p : Nat, p ≤ k ∧ i = .int .i64 p ∧ Hid (dupG (hd.take p) (hd.drop p) p = D1) ∧ Hid (Below w0.heap.size w0 wr)) (fun i _ => k - (intOf i).toNat)
          case atStart => exact ⟨0, Nat.zero_le _, rfl, HDP, HW⟩
          case round =>
            obtain ⟨p, hp, rfl, HP, HZ⟩ := hrel
            obtain ⟨wi, rfl⟩ : ∃ wi : World, wi = wr := ⟨_, rfl⟩
            have hxz := HX.out _ HZ.out
            have x0 := hxz.cell 0
            have x1 := hxz.cell 1
            have x2 := hxz.cell 2
            have xl := hxz.lt
            simp only [List.getElem?_toArray, List.getElem?_cons_zero, List.getElem?_cons_succ] at x0 x1 x2
            have BB := Lib.hid (HB0.out.trans (HZ.out.mono HB0.out.size))
            clear hxz
            by_cases hpt : p < k
            · obtain ⟨s, hs⟩ : ∃ s, hd[p]? = some s := ⟨hd[p]'(by rw [HHN.out]; exact hpt), List.getElem?_eq_getElem (by rw [HHN.out]; exact hpt)⟩
              obtain ⟨sb, so, scap, hsv, _, _, hsl, s0⟩ := (HH.out.keep HZ.out).get hs
              simp only [HHN.out, Value.slice.injEq, true_and] at hsv
              obtain ⟨rfl, rfl⟩ := hsv
              have HATP := Lib.hid (HAT.out _ (bdrew HZ.out) s)
              have hpk : decide ((p : Int) < 0) = false := by simp
              have hpn : decide ((k : Int) ≤ (p : Int)) = false := by simp; omega
              by_cases hm : s ∈ hd.take p
              · have hi := idx_seen hs hm
                have hdd := HP.out
                rw [dup_hit hs hm] at hdd
                have hq := HQ.out
                rw [if_pos (by rw [← hdd]; exact Int.natCast_nonneg p)] at hq
                have HQ := Lib.hid hq
                clear hs hm hdd hq
                generalize idxI hd s = ix at *
                have hdt : decide (ix < (p : Int)) = true := decide_eq_true hi
                go_wp2_with fail
                go_region_law (go_simp; go_at_call 53; refine HATP.out.mono ?_; rintro e w8 ⟨rfl, rfl⟩)
                all_goals
                  go_wp2_with fail
                  go_ret
                  exact ⟨by rw [HQ.out]; rfl, bdrew BB.out⟩
              · have hi := idxI_hit hs hm
                have hdd := HP.out
                rw [dup_step hs hm] at hdd
                have HP2 := Lib.hid hdd
                have HZD := Lib.hid (bdrew HZ.out)
                rw [hi] at HATP
                clear hs hm hdd hi
                have hdt : decide ((p : Int) < (p : Int)) = false := by simp
                go_wp2_with fail
                go_region_law (go_simp; go_at_call 53; refine HATP.out.mono ?_; rintro e w8 ⟨rfl, rfl⟩)
                all_goals
                  go_wp2_with fail
                  go_roundw
                  case rel => exact ⟨p + 1, by omega, by go_num, HP2, HZD⟩
                  case measure => simp [intOf]; omega
            · obtain rfl : p = k := by omega
              have hdd := HP.out
              rw [List.drop_of_length_le (by rw [HHN.out]; exact Nat.le_refl _)] at hdd
              unfold dupG at hdd
              have hq := HQ.out
              rw [if_neg (by rw [← hdd]; decide)] at hq
              have HQ := Lib.hid hq
              have HVP := Lib.hid (HVR.out _ HZ.out (by omega) (by trivial))
              clear hdd hq
              go_wp2_with fail
              refine HVP.out.mono ?_
              rintro e w8 ⟨vv, rfl, hov, hb8⟩
              have hsv : StrsAt w8 vv (qVars al) := hov.strs (by omega)
              obtain ⟨va, vc, rfl, _, _⟩ := hsv.form
              have hz8 := HZ.out.trans (hb8.mono HZ.out.size)
              have HZ8 := Lib.hid hz8
              have HSV := Lib.hid hsv
              generalize qVars al = VS at *
              have hx8 := HX.out _ hz8
              have x0 := hx8.cell 0
              have x1 := hx8.cell 1
              have xl := hx8.lt
              simp only [List.getElem?_toArray, List.getElem?_cons_zero, List.getElem?_cons_succ] at x0 x1
              have BB8 := Lib.hid (HB0.out.trans (hz8.mono HB0.out.size))
              have HS8 := Lib.hid (HH.out.keep hz8)
              clear hov hb8 hsv hz8 hx8
              go_wp2_with fail
              go_loop [12] (fun i => ∃ q : Nat, q ≤ p ∧ i = .int .i64 q ∧ Hid (((hd.take q).any fun s => !decide (s ∈ VS)) = false)) (fun i => p - (intOf i).toNat)
              case atStart => exact ⟨0, Nat.zero_le _, rfl, Lib.hid rfl⟩
              case round =>
                obtain ⟨q, hq, rfl, HPL⟩ := hrel
                by_cases hqt : q < p
                · obtain ⟨s, hs⟩ : ∃ s, hd[q]? = some s := ⟨hd[q]'(by rw [HHN.out]; exact hqt), List.getElem?_eq_getElem (by rw [HHN.out]; exact hqt)⟩
                  obtain ⟨sb, so, scap, hsv, _, _, hsl, s0⟩ := HS8.out.get hs
                  simp only [HHN.out, Value.slice.injEq, true_and] at hsv
                  obtain ⟨rfl, rfl⟩ := hsv
                  have hin := refIn_any w8 _ VS s HSV.out
                  have hpk : decide ((q : Int) < 0) = false := by simp
                  have hpn : decide ((p : Int) ≤ (q : Int)) = false := by simp; omega
                  by_cases hm : s ∈ VS
                  · rw [decide_eq_true hm] at hin
                    have HIN := Lib.hid hin
                    have HP2 : Hid (((hd.take (q + 1)).any fun s => !decide (s ∈ VS)) = false) := Lib.hid (by rw [take_any_succ _ hs, HPL.out, decide_eq_true hm]; rfl)
                    clear hs hm hin
                    go_wp2_with fail
                    refine HIN.out.mono ?_
                    rintro e w9 ⟨rfl, rfl⟩
                    go_wp2_with fail
                    go_round
                    case rel => exact ⟨q + 1, by omega, by go_num, HP2⟩
                    case measure => simp [intOf]; omega
                  · rw [decide_eq_false hm] at hin
                    have HIN := Lib.hid hin
                    have hlk := HLK.out
                    have hany : (hd.any fun s => !decide (s ∈ VS)) = true := List.any_eq_true.2 ⟨s, List.mem_of_getElem? hs, by rw [decide_eq_false hm]; rfl⟩
                    rw [hany] at hlk
                    have hqq := HQ.out
                    rw [if_pos (of_decide_eq_true hlk)] at hqq
                    have HQ := Lib.hid hqq
                    clear hs hm hin hlk hany hqq
                    go_wp2_with fail
                    refine HIN.out.mono ?_
                    rintro e w9 ⟨rfl, rfl⟩
                    go_wp2_with fail
                    go_ret
                    exact ⟨by rw [HQ.out]; rfl, BB8.out⟩
                · obtain rfl : q = p := by omega
                  have hlk := HLK.out
                  have hp := HPL.out
                  rw [List.take_of_length_le (by rw [HHN.out]; exact Nat.le_refl _)] at hp
                  rw [hp] at hlk
                  have hqq := HQ.out
                  rw [if_neg (of_decide_eq_false hlk)] at hqq
                  have HQ := Lib.hid hqq
                  clear hlk hp hqq
                  go_wp2_with fail
                  go_ret
                  exact ⟨by rw [HQ.out]; rfl, BB8.out⟩
end Go.Proofs.YtgilflkgibfjgaaGreatDoor
