/- osierref09.ShowAtom, Show, walked. -/
import Derived.Test.YtgilflkgibfjgaaGreatDoorQr0Z
import Derived.Test.YtgilflkgibfjgaaGreatDoorQs2Z
import Derived.Test.YtgilflkgibfjgaaGreatDoorLe
namespace Go.Proofs.YtgilflkgibfjgaaGreatDoor
open Go.RowKit
set_option linter.unusedVariables false

theorem join_snocG (l : List (List UInt8)) (x sep : List UInt8) (h : l ≠ []) : Lib.join (l ++ [x]) sep = Lib.join l sep ++ sep ++ x := by
  cases l with
  | nil => exact absurd rfl h
  | cons a r =>
    rw [List.cons_append, Lib.join_cons, Lib.join_cons]
    simp [Lib.joinTail]
theorem take_map_succ {α β : Type} (f : α → β) {l : List α} {k : Nat} {x : α} (h : l[k]? = some x) : (l.take (k + 1)).map f = (l.take k).map f ++ [f x] := by
  rw [List.take_add_one, h]
  simp
theorem take_join {α : Type} (f : α → List UInt8) {l : List α} {k : Nat} {x : α} (h : l[k]? = some x) (h0 : k ≠ 0) : Lib.join ((l.take (k + 1)).map f) [44, 32] = Lib.join ((l.take k).map f) [44, 32] ++ [44, 32] ++ f x := by
  have hk := (List.getElem?_eq_some_iff.1 h).1
  rw [take_map_succ f h]
  refine join_snocG _ _ _ fun e => ?_
  have : ((l.take k).map f).length = k := by rw [List.length_map, List.length_take]; omega
  rw [e] at this
  simp at this
  exact h0 this.symm
theorem take_join0 {α : Type} (f : α → List UInt8) {l : List α} {x : α} (h : l[0]? = some x) : Lib.join ((l.take (0 + 1)).map f) [44, 32] = f x := by
  rw [take_map_succ f h]
  simp [Lib.join_one]

theorem ba_appQ {S : ByteArray} {t l : List UInt8} (h : S.data.toList = l) : S ++ ⟨t.toArray⟩ = ⟨(l ++ t).toArray⟩ := by
  subst h
  apply ByteArray.ext
  simp

set_option maxHeartbeats 8000000 in
set_option maxRecDepth 100000 in
theorem refShowAtom_any (w : World) (a : Atm) (tv : Value) (h : RowAt w tv 4 (a.ts.map Trm.cells)) (hr : a.rel.length ≤ 16) (hm : a.ts.length ≤ 5) (ht : ∀ t ∈ a.ts, (tmT t).length ≤ 258 ∧ -9223372036854775808 ≤ t.n ∧ t.n ≤ 9223372036854775807) :
    Calls Tryz.prog 71 #[.agg #[.string ⟨a.rel.toArray⟩, tv]] w fun e w' => e = .returned (.string ⟨(atT a).toArray⟩) ∧ Below w.heap.size w w' := by
  obtain ⟨ta, tc, rfl, htc, htm⟩ := h.form
  have hres : atT a = a.rel ++ [40] ++ Lib.join (a.ts.map tmT) [44, 32] ++ [41] := by
    unfold atT
    simp
  rw [hres]
  unfold maxLen at htm
  rw [List.length_map] at *
  have hb0 : Below w.heap.size w (w.alloc (.cells #[.string ⟨a.rel.toArray⟩, .slice ta a.ts.length tc] 93)) := balloc (Below.refl _ _) _
  have HB0 := Lib.hid hb0
  have HBX := Lib.hid (Blk.new w 93 #[.string ⟨a.rel.toArray⟩, .slice ta a.ts.length tc])
  have HROW := Lib.hid h
  have HT := Lib.hid ht
  have HSH := Lib.hid (fun W (t : Trm) (h0 : -9223372036854775808 ≤ t.n) (h1 : t.n ≤ 9223372036854775807) => refShow_any t.k t.n ⟨t.t.toArray⟩ W h0 h1)
  clear h ht hb0 hres
  generalize hM : a.ts.length = m at *
  have HM := Lib.hid hM
  have zr : (⟨a.rel.toArray⟩ : ByteArray).size = a.rel.length := by simp [ByteArray.size]
  have hl0 : a.rel.length + 1 ≤ 9223372036854775807 := by omega
  clear hM
  go_enter Tryz.func71, Tryz.ntmps71
  go_wp2_with fail
  go_loopw [3, 4] (fun s i wr => ∃ (k : Nat) (S : ByteArray), k ≤ m ∧ s = .string S ∧ i = .int .i64 k ∧ S.size ≤ 17 + 260 * k ∧ Hid (S.data.toList = a.rel ++ [40] ++ Lib.join ((a.ts.take k).map tmT) [44, 32]) ∧ Hid (Below (w.heap.size + 1) (w.alloc (.cells #[.string ⟨a.rel.toArray⟩, .slice ta m tc] 93)) wr)) (fun _ i _ => m - (intOf i).toNat)
  case atStart => exact ⟨0, ⟨a.rel.toArray⟩ ++ ⟨#[40]⟩, Nat.zero_le _, rfl, rfl, by rw [ByteArray.size_append, show (⟨#[40]⟩ : ByteArray).size = 1 from rfl]; omega, Lib.hid (by simp [Lib.join_nil]), Lib.hid (Below.refl _ _)⟩
  case round =>
    obtain ⟨k, S, hk, rfl, rfl, hS, HS, HW⟩ := hrel
    obtain ⟨wo, rfl⟩ : ∃ wo : World, wo = wr := ⟨_, rfl⟩
    have hbx := HBX.out.below HW.out (by simp)
    have x0 := hbx.cell 0
    have x1 := hbx.cell 1
    have xl := hbx.lt
    simp only [List.getElem?_toArray, List.getElem?_cons_zero, List.getElem?_cons_succ] at x0 x1
    have hbw : Below w.heap.size w wo := HB0.out.trans (HW.out.mono (by omega))
    have HBW := Lib.hid hbw
    have hzz : w.heap.size + 1 ≤ wo.heap.size := by have := HW.out.size; simp at this; omega
    clear hbx hbw
    by_cases hkm : k < m
    · obtain ⟨t, htt⟩ : ∃ t, a.ts[k]? = some t := ⟨a.ts[k]'(by rw [HM.out]; exact hkm), List.getElem?_eq_getElem (by rw [HM.out]; exact hkm)⟩
      obtain ⟨tb, to, tcap, htv, _, _, htbl, hce⟩ := (HROW.out.keep HBW.out).get (i := k) (x := t.cells) (by simp [htt])
      simp only [List.length_map, HM.out, Value.slice.injEq, true_and] at htv
      obtain ⟨rfl, rfl⟩ := htv
      have u0 := hce 0 _ rfl
      have u1 := hce 1 _ rfl
      have u2 := hce 2 _ rfl
      have u3 := hce 3 _ rfl
      simp only [Nat.add_zero] at u0
      obtain ⟨hwl, hn0, hn1⟩ := HT.out t (List.mem_of_getElem? htt)
      have z2 : (⟨#[44, 32]⟩ : ByteArray).size = 2 := rfl
      have hdk : decide ((k : Int) < 0) = false := by simp
      have hdn : decide ((m : Int) ≤ (k : Int)) = false := by simp; omega
      by_cases hx : t.x = []
      · have htm1 : tmT t = showR t.k t.n t.t := by unfold tmT; rw [if_pos hx]
        have hsv := fun W => HSH.out W t hn0 hn1
        rw [← htm1] at hsv
        rw [hx] at u0
        by_cases h0 : k = 0
        · subst h0
          have e0 := take_join0 tmT htt
          generalize tmT t = word at *
          have HSV := Lib.hid hsv
          have E0 := Lib.hid e0
          have zc : (⟨word.toArray⟩ : ByteArray).size = word.length := by simp [ByteArray.size]
          have b1 : S.size + word.length ≤ 9223372036854775807 := by omega
          simp only [Nat.zero_mul, Nat.add_zero] at u0 u1 u2 u3
          clear e0 hsv htm1 htt hce hx
          go_wp2_with fail
          refine (HSV.out _).mono ?_
          rintro e w4 ⟨rfl, hb4⟩
          have HW4 := Lib.hid (HW.out.trans (hb4.mono hzz))
          clear hb4
          go_wp2_with fail
          go_roundw
          case rel => exact ⟨0 + 1, _, by omega, rfl, by go_num, by simp only [ByteArray.size_append]; omega, Lib.hid (by rw [E0.out]; simp [HS.out, Lib.join_nil]), HW4⟩
          case measure => simp [intOf]; omega
        · have e0 := take_join tmT htt h0
          generalize tmT t = word at *
          have HSV := Lib.hid hsv
          have E0 := Lib.hid e0
          have zc : (⟨word.toArray⟩ : ByteArray).size = word.length := by simp [ByteArray.size]
          have hk0 : decide ((0 : Int) < (k : Int)) = true := by simp; omega
          have hk1 : 0 < k := by omega
          have b0 : S.size + 2 ≤ 9223372036854775807 := by omega
          have b1 : S.size + 2 + word.length ≤ 9223372036854775807 := by omega
          clear e0 hsv htm1 htt hce hx
          go_wp2_with fail
          refine (HSV.out _).mono ?_
          rintro e w4 ⟨rfl, hb4⟩
          have HW4 := Lib.hid (HW.out.trans (hb4.mono hzz))
          clear hb4
          go_wp2_with fail
          go_roundw
          case rel => exact ⟨k + 1, _, by omega, rfl, by go_num, by simp only [ByteArray.size_append]; omega, Lib.hid (by rw [E0.out]; simp [HS.out]), HW4⟩
          case measure => simp [intOf]; omega
      · have htm1 : tmT t = t.x := by unfold tmT; rw [if_neg hx]
        have he := ba_empty hx
        have he2 : t.x.isEmpty = false := by
          cases hxx : t.x with
          | nil => exact absurd hxx hx
          | cons _ _ => rfl
        have he3 : (!t.x.isEmpty) = true := by rw [he2]; rfl
        have zc : (⟨t.x.toArray⟩ : ByteArray).size = t.x.length := by simp [ByteArray.size]
        rw [htm1] at hwl
        by_cases h0 : k = 0
        · subst h0
          have e0 := take_join0 tmT htt
          rw [htm1] at e0
          have E0 := Lib.hid e0
          have b1 : S.size + t.x.length ≤ 9223372036854775807 := by omega
          simp only [Nat.zero_mul, Nat.add_zero] at u0 u1 u2 u3
          clear e0 htm1 htt hce hx
          go_wp2_with fail
          go_roundw
          case rel => exact ⟨0 + 1, _, by omega, rfl, by go_num, by simp only [ByteArray.size_append]; omega, Lib.hid (by rw [E0.out]; simp [HS.out, Lib.join_nil]), HW⟩
          case measure => simp [intOf]; omega
        · have e0 := take_join tmT htt h0
          rw [htm1] at e0
          have E0 := Lib.hid e0
          have hk0 : decide ((0 : Int) < (k : Int)) = true := by simp; omega
          have hk1 : 0 < k := by omega
          have b0 : S.size + 2 ≤ 9223372036854775807 := by omega
          have b1 : S.size + 2 + t.x.length ≤ 9223372036854775807 := by omega
          clear e0 htm1 htt hce hx
          go_wp2_with fail
          go_roundw
          case rel => exact ⟨k + 1, _, by omega, rfl, by go_num, by simp only [ByteArray.size_append]; omega, Lib.hid (by rw [E0.out]; simp [HS.out]), HW⟩
          case measure => simp [intOf]; omega
    · obtain rfl : k = m := by omega
      have hs := HS.out
      rw [List.take_of_length_le (by rw [HM.out]; exact Nat.le_refl _)] at hs
      have b1 : S.size + 1 ≤ 9223372036854775807 := by omega
      have hcc : S ++ ⟨#[41]⟩ = ⟨(a.rel ++ [40] ++ Lib.join (a.ts.map tmT) [44, 32] ++ [41]).toArray⟩ := by
        exact ba_appQ hs
      have HCC := Lib.hid hcc
      clear hs hcc
      go_wp2_with fail
      go_ret
      exact ⟨(congrArg (fun x => Ending.returned (Value.string x)) HCC.out).trans (by simp), HBW.out⟩

set_option maxHeartbeats 2000000 in
set_option maxRecDepth 100000 in
theorem refQShow_bad (w : World) (nm : ByteArray) (hv av : Value) (hd : List (List UInt8)) (al : List Atm) (hh : StrsAt w hv hd) (h : AtomsAt w av al) (hn : nm.size ≤ 140737488355328) (hl : ∀ s ∈ hd, s.length ≤ 140737488355328) (ha : LensA al) (hk : chkQ ⟨nm.data.toList, hd, al⟩ ≠ 0) :
    Calls Tryz.prog 21 #[.agg #[.string nm, hv, av]] w fun e w' => e = .returned (.string ⟨#[]⟩) ∧ Below w.heap.size w w' := by
  have hb0 : Below w.heap.size w (w.alloc (.cells #[.string nm, hv, av] 34)) := balloc (Below.refl _ _) _
  have hch := refShape_any _ nm hv av hd al (hh.keep hb0) (h.keep hb0) hn hl ha
  have q0 : (chkQ ⟨nm.data.toList, hd, al⟩ != 0) = true := by simpa using hk
  have HC := Lib.hid hch
  have HB0 := Lib.hid hb0
  clear hch hb0 h hh hn hl ha hk
  generalize chkQ ⟨nm.data.toList, hd, al⟩ = ch at *
  go_enter Tryz.func21, Tryz.ntmps21
  go_wp2_with fail
  refine HC.out.mono ?_
  rintro e w2 ⟨rfl, hb2⟩
  have HB2 := Lib.hid (HB0.out.trans (hb2.mono (by simp)))
  clear hb2
  go_wp2_with fail
  go_ret
  exact ⟨rfl, HB2.out⟩

set_option maxHeartbeats 16000000 in
set_option maxRecDepth 100000 in
theorem refQShow_good (w : World) (nm : ByteArray) (hv av : Value) (hd : List (List UInt8)) (al : List Atm) (hh : StrsAt w hv hd) (h : AtomsAt w av al) (hk : RightQ ⟨nm.data.toList, hd, al⟩) (hr : RangeQ ⟨nm.data.toList, hd, al⟩) :
    Calls Tryz.prog 21 #[.agg #[.string nm, hv, av]] w fun e w' => e = .returned (.string ⟨(qT ⟨nm.data.toList, hd, al⟩).toArray⟩) ∧ Below w.heap.size w w' := by
  have hb0 : Below w.heap.size w (w.alloc (.cells #[.string nm, hv, av] 34)) := balloc (Below.refl _ _) _
  have hbx := Blk.new w 34 #[.string nm, hv, av]
  have hnz : nm.size ≤ 16 := (name_len16 hk.name).2
  have hch := refShape_any _ nm hv av hd al (hh.keep hb0) (h.keep hb0) (by omega) (fun s hs => by have := (name_len16 (hk.head s hs)).2; omega) (fun a ha => ⟨by have := (name_len16 (hk.rel a ha)).2; omega, fun t ht => by
    by_cases hx : t.x = []
    · rw [hx]; simp
    · have := (name_len16 (hk.var a ha t ht hx).1).2; omega⟩)
  rw [right_chkQ hk] at hch
  have hhl : hd.length ≤ 30 := hk.heads
  have hfew : al.length ≤ 6 := hk.few
  have hhx : ∀ s ∈ hd, s.length ≤ 16 := fun s hs => (name_len16 (hk.head s hs)).2
  have hax : ∀ a ∈ al, (atT a).length ≤ 1318 := fun a ha => (atT_len hk hr a ha).2
  have hsa := fun W (a : Atm) (tv : Value) (ha : a ∈ al) (hR : RowAt W tv 4 (a.ts.map Trm.cells)) => refShowAtom_any W a tv hR (name_len16 (hk.rel a ha)).2 (hk.thin a ha) (fun t ht => ⟨tmT_len hk hr a ha t ht, hr a ha t ht⟩)
  have hres : qT ⟨nm.data.toList, hd, al⟩ = nm.data.toList ++ [40] ++ Lib.join (hd.map id) [44, 32] ++ [41, 32, 58, 45, 32] ++ Lib.join (al.map atT) [44, 32] := by
    unfold qT
    simp
  rw [hres]
  have HH := Lib.hid hh
  have HR := Lib.hid h
  have HHX := Lib.hid hhx
  have HAX := Lib.hid hax
  have HSA := Lib.hid hsa
  have HC := Lib.hid hch
  have HB0 := Lib.hid hb0
  have HBX := Lib.hid hbx
  obtain ⟨hda, hdc, rfl, hhc, hhm⟩ := hh.form
  obtain ⟨ad, cap, rfl, hnc, hcm⟩ := h.form
  unfold maxLen at hcm hhm
  clear h hh hhx hax hsa hch hb0 hbx hres hk hr
  generalize hHN : hd.length = hn at *
  have HHN := Lib.hid hHN
  generalize hN : al.length = n at *
  have HN := Lib.hid hN
  clear hN hHN
  go_enter Tryz.func21, Tryz.ntmps21
  go_wp2_with fail
  refine HC.out.mono ?_
  rintro e w2 ⟨rfl, hb2⟩
  have HB2 := Lib.hid (HB0.out.trans (hb2.mono (by simp)))
  have hbx2 := HBX.out.below hb2 (by simp)
  have HBX2 := Lib.hid hbx2
  have x0 := hbx2.cell 0
  have x1 := hbx2.cell 1
  have x2 := hbx2.cell 2
  simp only [List.getElem?_toArray, List.getElem?_cons_zero, List.getElem?_cons_succ] at x0 x1 x2
  have hxl := hbx2.lt
  have hl0 : nm.size + 1 ≤ 9223372036854775807 := by omega
  clear hb2 hbx2 HC
  go_wp2_with fail
  go_loop [3, 4] (fun s i => ∃ (k : Nat) (S : ByteArray), k ≤ hn ∧ s = .string S ∧ i = .int .i64 k ∧ S.size ≤ 17 + 18 * k ∧ Hid (S.data.toList = nm.data.toList ++ [40] ++ Lib.join ((hd.take k).map id) [44, 32])) (fun _ i => hn - (intOf i).toNat)
  case atStart => exact ⟨0, nm ++ ⟨#[40]⟩, Nat.zero_le _, rfl, rfl, by rw [ByteArray.size_append, show (⟨#[40]⟩ : ByteArray).size = 1 from rfl]; omega, Lib.hid (by simp [Lib.join_nil])⟩
  case round =>
    obtain ⟨k, S, hk, rfl, rfl, hS, HS⟩ := hrel
    by_cases hkn : k < hn
    · obtain ⟨s, hs⟩ : ∃ s, hd[k]? = some s := ⟨hd[k]'(by rw [HHN.out]; exact hkn), List.getElem?_eq_getElem (by rw [HHN.out]; exact hkn)⟩
      obtain ⟨sb, so, scap, hsv, _, _, hsl, s0⟩ := (HH.out.keep HB2.out).get hs
      simp only [HHN.out, Value.slice.injEq, true_and] at hsv
      obtain ⟨rfl, rfl⟩ := hsv
      have hxx := HHX.out s (List.mem_of_getElem? hs)
      have z2 : (⟨#[44, 32]⟩ : ByteArray).size = 2 := rfl
      have zc : (⟨s.toArray⟩ : ByteArray).size = s.length := by simp [ByteArray.size]
      have hdk : decide ((k : Int) < 0) = false := by simp
      have hdn : decide ((hn : Int) ≤ (k : Int)) = false := by simp; omega
      by_cases h0 : k = 0
      · subst h0
        have E0 := Lib.hid (take_join0 id hs)
        have b1 : S.size + s.length ≤ 9223372036854775807 := by omega
        simp only [Nat.add_zero] at s0
        clear hs
        go_wp2_with fail
        go_round
        case rel => exact ⟨0 + 1, _, by omega, rfl, by go_num, by simp only [ByteArray.size_append]; omega, Lib.hid (by rw [E0.out]; simp [HS.out, Lib.join_nil])⟩
        case measure => simp [intOf]; omega
      · have E0 := Lib.hid (take_join id hs h0)
        have hk0 : decide ((0 : Int) < (k : Int)) = true := by simp; omega
        have hk1 : 0 < k := by omega
        have b0 : S.size + 2 ≤ 9223372036854775807 := by omega
        have b1 : S.size + 2 + s.length ≤ 9223372036854775807 := by omega
        clear hs
        go_wp2_with fail
        go_round
        case rel => exact ⟨k + 1, _, by omega, rfl, by go_num, by simp only [ByteArray.size_append]; omega, Lib.hid (by rw [E0.out]; simp [HS.out])⟩
        case measure => simp [intOf]; omega
    · obtain rfl : k = hn := by omega
      have hs := HS.out
      rw [List.take_of_length_le (by rw [HHN.out]; exact Nat.le_refl _)] at hs
      generalize hJ1 : Lib.join (hd.map id) [44, 32] = J1 at *
      have HJ1 := Lib.hid hJ1
      clear hJ1
      have HS1 := Lib.hid hs
      have b1 : S.size + 5 ≤ 9223372036854775807 := by omega
      have z5 : (⟨#[41, 32, 58, 45, 32]⟩ : ByteArray).size = 5 := rfl
      clear hs
      go_wp2_with fail
      go_loopw [3, 5] (fun s i wr => ∃ (j : Nat) (T : ByteArray), j ≤ n ∧ s = .string T ∧ i = .int .i64 j ∧ T.size ≤ 562 + 1320 * j ∧ Hid (T.data.toList = nm.data.toList ++ [40] ++ J1 ++ [41, 32, 58, 45, 32] ++ Lib.join ((al.take j).map atT) [44, 32]) ∧ Hid (Below w2.heap.size w2 wr)) (fun _ i _ => n - (intOf i).toNat)
      case atStart => exact ⟨0, S ++ ⟨#[41, 32, 58, 45, 32]⟩, Nat.zero_le _, rfl, rfl, by rw [ByteArray.size_append, z5]; omega, Lib.hid (by simp [HS1.out, Lib.join_nil]), Lib.hid (Below.refl _ _)⟩
      case round =>
        obtain ⟨j, T, hj, rfl, rfl, hT, HT, HW⟩ := hrel
        obtain ⟨wo, rfl⟩ : ∃ wo : World, wo = wr := ⟨_, rfl⟩
        have hxo := HBX2.out.below HW.out HBX2.out.lt
        have x0 := hxo.cell 0
        have x1 := hxo.cell 1
        have x2 := hxo.cell 2
        have xl := hxo.lt
        simp only [List.getElem?_toArray, List.getElem?_cons_zero, List.getElem?_cons_succ] at x0 x1 x2
        have hbw := HB2.out.trans (HW.out.mono HB2.out.size)
        have HBW := Lib.hid hbw
        have hzz := HW.out.size
        clear hxo hbw
        by_cases hjn : j < n
        · obtain ⟨a, ha⟩ : ∃ a, al[j]? = some a := ⟨al[j]'(by rw [HN.out]; exact hjn), List.getElem?_eq_getElem (by rw [HN.out]; exact hjn)⟩
          obtain ⟨b, off, cap', tv, hv', _, _, hbl, q0, q1, hrow, hal⟩ := (AtomsAt.keep HR.out HBW.out).get ha
          rw [HN.out] at hv'
          simp only [Value.slice.injEq, true_and] at hv'
          obtain ⟨rfl, rfl⟩ := hv'
          have hma := List.mem_of_getElem? ha
          have hsa := HSA.out wo a tv hma hrow
          obtain ⟨ta, tc, rfl, _, _⟩ := hrow.form
          rw [List.length_map] at *
          have hxx := HAX.out a hma
          have z2 : (⟨#[44, 32]⟩ : ByteArray).size = 2 := rfl
          have hdk : decide ((j : Int) < 0) = false := by simp
          have hdn : decide ((n : Int) ≤ (j : Int)) = false := by simp; omega
          by_cases h0 : j = 0
          · subst h0
            have e0 := take_join0 atT ha
            generalize atT a = word at *
            have E0 := Lib.hid e0
            have HSA2 := Lib.hid hsa
            have zc : (⟨word.toArray⟩ : ByteArray).size = word.length := by simp [ByteArray.size]
            have b1 : T.size + word.length ≤ 9223372036854775807 := by omega
            simp only [Nat.zero_mul, Nat.add_zero] at q0 q1
            clear e0 hsa ha hma hrow
            go_wp2_with fail
            refine HSA2.out.mono ?_
            rintro e w4 ⟨rfl, hb4⟩
            have HW4 := Lib.hid (HW.out.trans (hb4.mono hzz))
            clear hb4
            go_wp2_with fail
            go_roundw
            case rel => exact ⟨0 + 1, _, by omega, rfl, by go_num, by simp only [ByteArray.size_append]; omega, Lib.hid (by rw [E0.out]; simp [HT.out, Lib.join_nil]), HW4⟩
            case measure => simp [intOf]; omega
          · have e0 := take_join atT ha h0
            generalize atT a = word at *
            have E0 := Lib.hid e0
            have HSA2 := Lib.hid hsa
            have zc : (⟨word.toArray⟩ : ByteArray).size = word.length := by simp [ByteArray.size]
            have hk0 : decide ((0 : Int) < (j : Int)) = true := by simp; omega
            have hk1 : 0 < j := by omega
            have b0 : T.size + 2 ≤ 9223372036854775807 := by omega
            have b1 : T.size + 2 + word.length ≤ 9223372036854775807 := by omega
            clear e0 hsa ha hma hrow
            go_wp2_with fail
            refine HSA2.out.mono ?_
            rintro e w4 ⟨rfl, hb4⟩
            have HW4 := Lib.hid (HW.out.trans (hb4.mono hzz))
            clear hb4
            go_wp2_with fail
            go_roundw
            case rel => exact ⟨j + 1, _, by omega, rfl, by go_num, by simp only [ByteArray.size_append]; omega, Lib.hid (by rw [E0.out]; simp [HT.out]), HW4⟩
            case measure => simp [intOf]; omega
        · obtain rfl : j = n := by omega
          have hs := HT.out
          rw [List.take_of_length_le (by rw [HN.out]; exact Nat.le_refl _)] at hs
          have hcc : T = ⟨(nm.data.toList ++ [40] ++ J1 ++ [41, 32, 58, 45, 32] ++ Lib.join (al.map atT) [44, 32]).toArray⟩ := by
            rw [← hs]
          have HCC := Lib.hid hcc
          clear hs hcc
          go_wp2_with fail
          go_ret
          refine ⟨?_, HBW.out⟩
          rw [HJ1.out]
          exact (congrArg (fun x => Ending.returned (Value.string x)) HCC.out).trans (by simp)

theorem refQShow_any (w : World) (nm : ByteArray) (hv av : Value) (hd : List (List UInt8)) (al : List Atm) (hh : StrsAt w hv hd) (h : AtomsAt w av al) (hn : nm.size ≤ 140737488355328) (hl : ∀ s ∈ hd, s.length ≤ 140737488355328) (ha : LensA al) (hr : RangeQ ⟨nm.data.toList, hd, al⟩) :
    Calls Tryz.prog 21 #[.agg #[.string nm, hv, av]] w fun e w' => e = .returned (.string ⟨(showQ ⟨nm.data.toList, hd, al⟩).toArray⟩) ∧ Below w.heap.size w w' := by
  unfold showQ
  by_cases hk : chkQ ⟨nm.data.toList, hd, al⟩ = 0
  · rw [if_pos hk]
    exact refQShow_good w nm hv av hd al hh h (chkQ_right hk) hr
  · rw [if_neg hk]
    exact refQShow_bad w nm hv av hd al hh h hn hl ha hk
end Go.Proofs.YtgilflkgibfjgaaGreatDoor
