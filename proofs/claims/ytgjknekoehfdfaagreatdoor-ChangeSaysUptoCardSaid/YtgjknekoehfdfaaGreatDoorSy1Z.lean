/- osierlaw10.names, walked. -/
import Derived.Test.YtgjknekoehfdfaaGreatDoorSy0Z
import Derived.Test.YtgjknekoehfdfaaGreatDoorCc0Z
import Derived.BigQuiet
namespace Go.Proofs.YtgjknekoehfdfaaGreatDoor
open Go.RowKit
set_option linter.unusedVariables false

set_option maxHeartbeats 8000000 in
set_option maxRecDepth 100000 in
theorem names10_any (w : World) (v : Value) (l : List Chg) (c : Chg) (rv : Value) (h : ChgsAt w v l) (h2 : RowAt w rv 3 (c.row.map Vl.cells)) :
    Calls Tryz.prog 19 #[v, .agg #[.bool c.add, .string ⟨c.rel.toArray⟩, rv]] w fun e w' => e = .returned (.bool (l.any fun d => alikeC d c)) ∧ Below w.heap.size w w' := by
  obtain ⟨va, vc, rfl, hvc, hvm⟩ := h.form
  unfold maxLen at hvm
  have hln := h.len
  have hb0 : Below w.heap.size w (w.alloc (.cells #[.bool c.add, .string ⟨c.rel.toArray⟩, rv] 30)) := balloc (Below.refl _ _) _
  have hk0 := Blk.new w 30 #[.bool c.add, .string ⟨c.rel.toArray⟩, rv]
  obtain ⟨ra, rc, rfl, _, _⟩ := h2.form
  obtain ⟨RES, hRES⟩ : ∃ RES, RES = (l.drop 0).any (fun d => alikeC d c) := ⟨_, rfl⟩
  rw [show l.any (fun d => alikeC d c) = RES by rw [hRES]; rfl]
  have HQ0 := Lib.hid hRES
  have HA := Lib.hid h
  have HC := Lib.hid h2
  obtain ⟨W0, hW0⟩ : ∃ W0, w.alloc (.cells #[.bool c.add, .string ⟨c.rel.toArray⟩, .slice ra (c.row.map Vl.cells).length rc] 30) = W0 := ⟨_, rfl⟩
  rw [hW0] at hb0 hk0
  have HB0 := Lib.hid hb0
  have HK0 := Lib.hid hk0
  have HW0 := Lib.hid hW0
  clear h h2 hRES hb0 hk0 hW0
  generalize hcn : (c.row.map Vl.cells).length = cn at *
  generalize hnm : (⟨c.rel.toArray⟩ : ByteArray) = nm at *
  have HNM := Lib.hid hnm
  generalize hN : l.length = n at *
  have HN := Lib.hid hN
  clear hN hcn hnm
  go_enter Tryz.func19, Tryz.ntmps19
  go_upto_region 1 with fail
  rw [HW0.out]
  clear HW0
  go_wp2_with fail
  go_loopw [6, 9] (fun _ iv wr => ∃ k : Nat, k ≤ n ∧ iv = .int .i64 k ∧ Hid (RES = (l.drop k).any (fun d => alikeC d c)) ∧ Hid (Below w.heap.size w wr) ∧ Hid (Blk wr w.heap.size 30 #[.bool c.add, .string nm, .slice ra cn rc])) (fun _ iv _ => n - (intOf iv).toNat)
  case atStart => exact ⟨0, Nat.zero_le _, rfl, HQ0, HB0, HK0⟩
  case round =>
    obtain ⟨k, hk, rfl, HQ, BW, HK⟩ := hrel
    obtain ⟨wo, rfl⟩ : ∃ wo : World, wo = wr := ⟨_, rfl⟩
    by_cases hlt : k < n
    · obtain ⟨d, hd⟩ : ∃ d, l[k]? = some d := ⟨l[k]'(by rw [HN.out]; exact hlt), List.getElem?_eq_getElem (by rw [HN.out]; exact hlt)⟩
      have hst : (l.drop k).any (fun d => alikeC d c) = (alikeC d c || (l.drop (k + 1)).any (fun d => alikeC d c)) := by
        rw [List.drop_eq_getElem_cons (List.getElem?_eq_some_iff.1 hd).1, (List.getElem?_eq_some_iff.1 hd).2]
        rfl
      obtain ⟨b1, o1, c1, ru, hv1, _, _, hl1, q0, q1, q2, hr1, _⟩ := (HA.out.keep BW.out).get hd
      rw [HN.out] at hv1
      simp only [Value.slice.injEq, true_and] at hv1
      obtain ⟨rfl, rfl⟩ := hv1
      obtain ⟨ua, uc, rfl, _, _⟩ := hr1.form
      have hdk : decide ((k : Int) < 0) = false := by simp
      have hdn : decide ((n : Int) ≤ (k : Int)) = false := by simp; omega
      have bx := Blk.new wo 30 #[.bool d.add, .string ⟨d.rel.toArray⟩, .slice ua (d.row.map Vl.cells).length uc]
      have hbx : Below wo.heap.size wo (wo.alloc (.cells #[.bool d.add, .string ⟨d.rel.toArray⟩, .slice ua (d.row.map Vl.cells).length uc] 30)) := balloc (Below.refl _ _) _
      obtain ⟨W1, hW1⟩ : ∃ W1, wo.alloc (.cells #[.bool d.add, .string ⟨d.rel.toArray⟩, .slice ua (d.row.map Vl.cells).length uc] 30) = W1 := ⟨_, rfl⟩
      rw [hW1] at bx hbx
      have hcb := HK.out.below hbx HK.out.lt
      have hsm := sameRow_any W1 _ _ d.row c.row (hr1.keep hbx) (HC.out.keep (BW.out.trans (hbx.mono BW.out.size)))
      have x1 := bx.cell 1
      have x2 := bx.cell 2
      have xl := bx.lt
      have y1 := hcb.cell 1
      have y2 := hcb.cell 2
      have yl := hcb.lt
      simp only [List.getElem?_toArray, List.getElem?_cons_zero, List.getElem?_cons_succ] at x1 x2 y1 y2
      have HW1 := Lib.hid hW1
      have HBX := Lib.hid (BW.out.trans (hbx.mono BW.out.size))
      have HKX := Lib.hid hcb
      have HSM := Lib.hid hsm
      have HST := Lib.hid hst
      clear hd hst hr1 hW1 hbx hcb hsm bx
      generalize (d.row.map Vl.cells).length = dn at *
      generalize hnm2 : (⟨d.rel.toArray⟩ : ByteArray) = nm2 at *
      have HNM2 := Lib.hid hnm2
      clear hnm2
      go_upto_region 4 with fail
      rw [HW1.out]
      clear q0 q1 q2 HW1
      by_cases hn : d.rel = c.rel
      · have ha : alikeC d c = sameV d.row c.row := by
          unfold alikeC
          rw [decide_eq_true hn]
          rfl
        obtain rfl : nm = nm2 := by rw [← HNM.out, ← HNM2.out, hn]
        rw [ha] at HST
        generalize sameV d.row c.row = sv at *
        clear hn ha
        go_wp2_with fail
        refine HSM.out.mono ?_
        rintro e w5 ⟨rfl, hb5⟩
        have HB5 := Lib.hid (HBX.out.trans (hb5.mono HBX.out.size))
        have HK5 := Lib.hid (HKX.out.below hb5 HKX.out.lt)
        clear hb5
        cases sv with
        | true =>
          have hq := HQ.out.trans HST.out
          rw [Bool.true_or] at hq
          subst hq
          go_wp2_with fail
          go_ret
          exact ⟨by first | rfl | simp, HB5.out⟩
        | false =>
          have HQ2 := Lib.hid (HQ.out.trans (HST.out.trans (Bool.false_or _)))
          go_wp2_with fail
          go_roundw
          case rel => exact ⟨k + 1, by omega, by go_num, HQ2, HB5, HK5⟩
          case measure => simp [intOf]; omega
      · have ha : alikeC d c = false := alikeC_apart hn
        rw [ha] at HST
        have hne : ¬ (nm2.toList = nm.toList) := fun e => hn (by rw [← HNM.out, ← HNM2.out] at e; simpa [ByteArray.toList_eq] using e)
        have HQ2 := Lib.hid (HQ.out.trans (HST.out.trans (Bool.false_or _)))
        clear hn ha HSM
        go_wp2_with fail
        go_roundw
        case rel => exact ⟨k + 1, by omega, by go_num, HQ2, HBX, HKX⟩
        case measure => simp [intOf]; omega
    · obtain rfl : k = n := by omega
      have hq := HQ.out
      rw [List.drop_eq_nil_of_le (by rw [HN.out]; exact Nat.le_refl _)] at hq
      have hq2 : RES = false := hq
      subst hq2
      have hkk : decide ((k : Int) < (k : Int)) = false := by simp
      clear hlt hk hq
      go_wp2_with fail
      go_ret
      exact ⟨by first | rfl | simp, BW.out⟩
end Go.Proofs.YtgjknekoehfdfaaGreatDoor
