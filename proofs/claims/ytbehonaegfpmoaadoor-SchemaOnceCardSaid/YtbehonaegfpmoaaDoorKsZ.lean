/- osierref08.Show, walked. -/
import Derived.Test.YtbehonaegfpmoaaDoorKrZ
namespace Go.Proofs.YtbehonaegfpmoaaDoor
open Go.RowKit
set_option linter.unusedVariables false

theorem join_snoc (l : List (List UInt8)) (x sep : List UInt8) (h : l ≠ []) : Lib.join (l ++ [x]) sep = Lib.join l sep ++ sep ++ x := by
  cases l with
  | nil => exact absurd rfl h
  | cons a r =>
    rw [List.cons_append, Lib.join_cons, Lib.join_cons]
    simp [Lib.joinTail]

set_option maxHeartbeats 2000000 in
set_option maxRecDepth 100000 in
theorem refShow_bad (w : World) (nm : ByteArray) (v : Value) (cs : List Col) (h : ColsAt w v cs) (hn : nm.size ≤ 140737488355328) (hc : ∀ c ∈ cs, c.x.length ≤ 140737488355328) (hk : chkC nm.data.toList cs ≠ 0) :
    Calls Tryd.prog 40 #[.agg #[.string nm, v]] w fun e w' => e = .returned (.string ⟨#[]⟩) ∧ Below w.heap.size w w' := by
  have hb0 : Below w.heap.size w (w.alloc (.cells #[.string nm, v] 58)) := balloc (Below.refl _ _) _
  have hch := refCheck_any _ nm v cs (h.keep hb0) hn hc
  have q0 : (chkC nm.data.toList cs != 0) = true := by simpa using hk
  have HC := Lib.hid hch
  have HB0 := Lib.hid hb0
  clear hch hb0 h hn hc hk
  generalize chkC nm.data.toList cs = ch at *
  go_enter Tryd.func40, Tryd.ntmps40
  go_wp2_with fail
  refine HC.out.mono ?_
  rintro e w2 ⟨rfl, hb2⟩
  have HB2 := Lib.hid (HB0.out.trans (hb2.mono (by simp)))
  clear hb2
  go_wp2_with fail
  go_ret
  exact ⟨rfl, HB2.out⟩

set_option maxHeartbeats 8000000 in
set_option maxRecDepth 100000 in
theorem refShow_good (w : World) (nm : ByteArray) (v : Value) (cs : List Col) (h : ColsAt w v cs) (hk : chkC nm.data.toList cs = 0) :
    Calls Tryd.prog 40 #[.agg #[.string nm, v]] w fun e w' => e = .returned (.string ⟨(showC nm.data.toList cs).toArray⟩) ∧ Below w.heap.size w w' := by
  obtain ⟨k1, k2, k3, k4⟩ := chkC_ok hk
  have hnl := nm_len k1
  have hb0 : Below w.heap.size w (w.alloc (.cells #[.string nm, v] 58)) := balloc (Below.refl _ _) _
  have hbx := Blk.new w 58 #[.string nm, v]
  have hch := refCheck_any _ nm v cs (h.keep hb0) (by have : nm.size = nm.data.toList.length := rfl; omega) (fun c hc => by have := nm_len (k2 c hc).1; omega)
  rw [hk] at hch
  obtain ⟨ad, cap, rfl, hnc, hcm⟩ := h.form
  have hnz : nm.size ≤ 16 := hnl.2
  have hcx : ∀ c ∈ cs, c.x.length ≤ 16 ∧ (c.k = 1 ∨ c.k = 2) := fun c hc => ⟨(nm_len (k2 c hc).1).2, by
    have := (k2 c hc).2
    unfold badK at this
    simp only [decide_eq_false_iff_not] at this
    omega⟩
  have hsh : showC nm.data.toList cs = nm.data.toList ++ [40] ++ Lib.join (cs.map colT) [44, 32] ++ [41] := by
    unfold showC
    rw [if_pos hk]
  rw [hsh]
  have HR := Lib.hid h
  have HC := Lib.hid hch
  have HB0 := Lib.hid hb0
  have HBX := Lib.hid hbx
  have HCX := Lib.hid hcx
  unfold maxLen at hcm
  clear h hch hb0 hbx k1 k2 k4 hk hsh hnl hcx
  generalize hN : cs.length = n at *
  have HN := Lib.hid hN
  clear hN
  go_enter Tryd.func40, Tryd.ntmps40
  go_wp2_with fail
  refine HC.out.mono ?_
  rintro e w2 ⟨rfl, hb2⟩
  have HB2 := Lib.hid (HB0.out.trans (hb2.mono (by simp)))
  have hbx2 := HBX.out.below hb2 (by simp)
  have x0 := hbx2.cell 0
  have x1 := hbx2.cell 1
  simp only [List.getElem?_toArray, List.getElem?_cons_zero, List.getElem?_cons_succ] at x0 x1
  have hxl := hbx2.lt
  have hl0 : nm.size + 1 ≤ 9223372036854775807 := by omega
  clear hb2 hbx2 HC
  go_wp2_with fail
  go_loop [3, 4] (fun s i => ∃ (k : Nat) (S : ByteArray), k ≤ n ∧ s = .string S ∧ i = .int .i64 k ∧ S.size ≤ 17 + 23 * k ∧ Hid (S.data.toList = nm.data.toList ++ [40] ++ Lib.join ((cs.take k).map colT) [44, 32])) (fun _ i => n - (intOf i).toNat)
  case atStart => exact ⟨0, nm ++ ⟨#[40]⟩, Nat.zero_le _, rfl, rfl, by rw [ByteArray.size_append, show (⟨#[40]⟩ : ByteArray).size = 1 from rfl]; omega, Lib.hid (by simp [Lib.join_nil])⟩
  case round =>
    obtain ⟨k, S, hk, rfl, rfl, hS, HS⟩ := hrel
    by_cases hkn : k < n
    · obtain ⟨c, hc⟩ : ∃ c, cs[k]? = some c := ⟨cs[k]'(by rw [HN.out]; exact hkn), List.getElem?_eq_getElem (by rw [HN.out]; exact hkn)⟩
      obtain ⟨tb, to, tcap, htv, _, _, htbl, t0, t1⟩ := (ColsAt.keep HR.out HB2.out).get hc
      simp only [HN.out, Value.slice.injEq, true_and] at htv
      obtain ⟨rfl, rfl⟩ := htv
      obtain ⟨hcl, hck⟩ := HCX.out c (List.mem_of_getElem? hc)
      have htk : (cs.take (k + 1)).map colT = (cs.take k).map colT ++ [colT c] := by
        rw [List.take_add_one, hc]
        simp
      have HTK := Lib.hid htk
      have hlk : ((cs.take k).map colT).length = k := by rw [List.length_map, List.length_take, HN.out]; omega
      have HLK := Lib.hid hlk
      have z2 : (⟨#[44, 32]⟩ : ByteArray).size = 2 := rfl
      have z4 : (⟨#[32, 105, 110, 116]⟩ : ByteArray).size = 4 := rfl
      have z5 : (⟨#[32, 116, 101, 120, 116]⟩ : ByteArray).size = 5 := rfl
      have zc : (⟨c.x.toArray⟩ : ByteArray).size = c.x.length := by simp [ByteArray.size]
      have hdk : decide ((k : Int) < 0) = false := by simp
      have hdn : decide ((n : Int) ≤ (k : Int)) = false := by simp; omega
      clear hc htk hlk
      by_cases h0 : k = 0
      · subst h0
        simp only [Nat.zero_mul, Nat.add_zero] at t0 t1
        have e0 : Lib.join ((cs.take (0 + 1)).map colT) [44, 32] = colT c := by
          rw [HTK.out]
          simp [Lib.join_one]
        have E0 := Lib.hid e0
        have b1 : S.size + c.x.length ≤ 9223372036854775807 := by omega
        have b2 : S.size + c.x.length + 4 ≤ 9223372036854775807 := by omega
        have b3 : S.size + c.x.length + 5 ≤ 9223372036854775807 := by omega
        clear e0
        rcases hck with hck | hck
        · have q1 : (c.k == 1) = true := by simp [hck]
          have hct : colT c = c.x ++ [32, 105, 110, 116] := by simp [colT, kindN, hck]
          have HCT := Lib.hid hct
          clear hct hck
          go_wp2_with fail
          go_round
          case rel => exact ⟨0 + 1, _, by omega, rfl, by go_num, by simp only [ByteArray.size_append]; omega, Lib.hid (by rw [E0.out, HCT.out]; simp [HS.out, Lib.join_nil])⟩
          case measure => simp [intOf]; omega
        · have q1 : (c.k == 1) = false := by simp [hck]
          have hct : colT c = c.x ++ [32, 116, 101, 120, 116] := by simp [colT, kindN, hck]
          have HCT := Lib.hid hct
          clear hct hck
          go_wp2_with fail
          go_round
          case rel => exact ⟨0 + 1, _, by omega, rfl, by go_num, by simp only [ByteArray.size_append]; omega, Lib.hid (by rw [E0.out, HCT.out]; simp [HS.out, Lib.join_nil])⟩
          case measure => simp [intOf]; omega
      · have e0 : Lib.join ((cs.take (k + 1)).map colT) [44, 32] = Lib.join ((cs.take k).map colT) [44, 32] ++ [44, 32] ++ colT c := by
          rw [HTK.out]
          refine join_snoc _ _ _ fun e => ?_
          have := HLK.out
          rw [e] at this
          simp at this
          exact h0 this.symm
        have E0 := Lib.hid e0
        have hk0 : decide ((0 : Int) < (k : Int)) = true := by simp; omega
        have b0 : S.size + 2 ≤ 9223372036854775807 := by omega
        have b1 : S.size + 2 + c.x.length ≤ 9223372036854775807 := by omega
        have b2 : S.size + 2 + c.x.length + 4 ≤ 9223372036854775807 := by omega
        have b3 : S.size + 2 + c.x.length + 5 ≤ 9223372036854775807 := by omega
        have hk1 : 0 < k := by omega
        clear e0 h0
        rcases hck with hck | hck
        · have q1 : (c.k == 1) = true := by simp [hck]
          have hct : colT c = c.x ++ [32, 105, 110, 116] := by simp [colT, kindN, hck]
          have HCT := Lib.hid hct
          clear hct hck
          go_wp2_with fail
          go_round
          case rel => exact ⟨k + 1, _, by omega, rfl, by go_num, by simp only [ByteArray.size_append]; omega, Lib.hid (by rw [E0.out, HCT.out]; simp [HS.out])⟩
          case measure => simp [intOf]; omega
        · have q1 : (c.k == 1) = false := by simp [hck]
          have hct : colT c = c.x ++ [32, 116, 101, 120, 116] := by simp [colT, kindN, hck]
          have HCT := Lib.hid hct
          clear hct hck
          go_wp2_with fail
          go_round
          case rel => exact ⟨k + 1, _, by omega, rfl, by go_num, by simp only [ByteArray.size_append]; omega, Lib.hid (by rw [E0.out, HCT.out]; simp [HS.out])⟩
          case measure => simp [intOf]; omega
    · obtain rfl : k = n := by omega
      have hs := HS.out
      rw [List.take_of_length_le (by rw [HN.out]; exact Nat.le_refl _)] at hs
      have HS2 := Lib.hid hs
      have b0 : S.size + 1 ≤ 9223372036854775807 := by omega
      clear hs
      go_wp2_with fail
      go_ret
      have hcc : S ++ ⟨#[41]⟩ = ⟨(nm.data.toList ++ 40 :: (Lib.join (cs.map colT) [44, 32] ++ [41])).toArray⟩ := by
        apply ByteArray.ext
        apply Array.toList_inj.1
        simp [HS2.out]
      refine ⟨?_, HB2.out⟩
      rw [← hcc]
      rfl
end Go.Proofs.YtbehonaegfpmoaaDoor
