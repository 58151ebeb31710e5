/- ChangeOnce, walked. -/
import Derived.Test.YtgilflkgibfjgaaDoorBd
import Derived.Test.YtgilflkgibfjgaaDoorRx
namespace Go.Proofs.YtgilflkgibfjgaaDoor
open Go.RowKit
set_option linter.unusedVariables false

set_option maxHeartbeats 4000000 in
set_option maxRecDepth 100000 in
theorem conce_bad (s : ByteArray) (w : World) (a f : Int) (hg : Glob w) (hp : Calls Tryd.prog 33 #[.string s] w (BPost w (.bad a f))) (hf : f ≠ 0) (h0 : 0 ≤ a) (h1 : a ≤ s.size) :
    Calls Tryd.prog 8 #[.string s] w fun e w' => e = .returned (.bool true) ∧ Below w.heap.size w w' := by
  have HP := Lib.hid hp
  have HG := Lib.hid hg
  have q0 : (f != 0) = true := by simpa using hf
  have d0 : decide (0 ≤ a) = true := decide_eq_true h0
  have d1 : decide (a ≤ (s.size : Int)) = true := decide_eq_true h1
  clear hp hg hf
  go_enter Tryd.func8, Tryd.ntmps8
  go_wp2_with fail
  refine HP.out.mono ?_
  rintro e w1 ⟨rfl, hb1⟩
  have HB1 := Lib.hid hb1
  have HAW := Lib.hid (awake10 _ (HG.out.below hb1))
  clear hb1
  go_wp2_with fail
  refine HAW.out.mono ?_
  rintro e w3 ⟨rfl, hb3⟩
  have HB3 := Lib.hid (HB1.out.trans (hb3.mono HB1.out.size))
  clear hb3
  go_wp2_with fail
  go_ret
  exact ⟨by first | rfl | simp, HB3.out⟩

set_option maxHeartbeats 8000000 in
set_option maxRecDepth 100000 in
theorem conce_good (s : ByteArray) (w : World) (b : List Chg) (c : List Tok) (hg : Glob w) (hp : Calls Tryd.prog 33 #[.string s] w (BPost w (.ok b c))) (hn : b.length ≤ 256)
    (hb : ∀ c ∈ b, isNameB c.rel = true ∧ ∀ u ∈ c.row, validB u.k u.n u.t = true ∧ RangeV u) (hrl : ∀ c ∈ b, c.row.length ≤ 4398046511104) :
    Calls Tryd.prog 8 #[.string s] w fun e w' => e = .returned (.bool true) ∧ Below w.heap.size w w' := by
  have hr : RangeB b := fun c hc u hu => ((hb c hc).2 u hu).2
  have hsl : ∀ c ∈ b, c.rel.length ≤ 140737488355328 := fun c hc => by
    have := name_len16 (hb c hc).1
    omega
  have hjl : b.all goodC = true → (Lib.join (b.map chgT) [44, 32]).length ≤ 140737488355328 := fun ha => by
    have := joinC_len (b := b) (fun c hc => List.all_eq_true.1 ha c hc) hr
    omega
  have hsh := fun W v (hW : Glob W) (h : ChgsAt W v b) => chgShow_any W v b h hr hsl hjl hW
  have hss : (⟨(showBt b).toArray⟩ : ByteArray).data.toList = showBt b := by simp
  have hsz : (⟨(showBt b).toArray⟩ : ByteArray).size = (showBt b).length := by simp [ByteArray.size]
  have hbk : b.any wideC = false → (showBt b).length ≤ 16384 → ∀ W, Glob W → Calls Tryd.prog 33 #[.string ⟨(showBt b).toArray⟩] W (BPost W (.ok b [])) := fun hw hl W hW => by
    have hgd := wide_good hb hw
    have e : showBt b = Lib.join (b.map chgT) [44, 32] := by unfold showBt; rw [if_pos (List.all_eq_true.2 hgd)]
    have h1 := batch_any ⟨(showBt b).toArray⟩ W (by omega) hW
    rw [hss] at h1
    rw [e] at h1 hl ⊢
    rw [parseB_few hgd hr hl hn] at h1
    exact h1
  have HSH := Lib.hid hsh
  have HBK := Lib.hid hbk
  have HP := Lib.hid hp
  have HG := Lib.hid hg
  have HRL := Lib.hid hrl
  clear hsh hbk hp hg hb hr hsl hjl hss hrl
  obtain ⟨S, hS⟩ : ∃ S, showBt b = S := ⟨_, rfl⟩
  rw [hS] at HSH HBK hsz
  clear hS
  generalize hN : b.length = n at *
  have HN := Lib.hid hN
  clear hN
  go_enter Tryd.func8, Tryd.ntmps8
  go_wp2_with fail
  refine HP.out.mono ?_
  rintro e w1 ⟨bv, rfl, hown, hb1⟩
  have hat := hown.at (by rw [HN.out]; omega) HRL.out
  obtain ⟨ba, bc, rfl, _, _⟩ := hat.form
  rw [HN.out] at hat
  have HAT := Lib.hid hat
  have HB1 := Lib.hid hb1
  have HS1 := Lib.hid (HSH.out _ _ (HG.out.below hb1) hat)
  rw [HN.out]
  clear hown hat hb1
  go_wp2_with fail
  refine HS1.out.mono ?_
  rintro e w2 ⟨rfl, hb2⟩
  have HB2 := Lib.hid (HB1.out.trans (hb2.mono HB1.out.size))
  have HA2 := Lib.hid (HAT.out.keep hb2)
  clear hb2 HAT HS1
  go_wp2_with fail
  go_loopw [7, 41] (fun wd i wr => ∃ (k : Nat) (wb : Bool), k ≤ n ∧ wd = .bool wb ∧ i = .int .i64 k ∧ Hid (wb = (b.take k).any wideC) ∧ Hid (Below w2.heap.size w2 wr)) (fun _ i _ => n - (intOf i).toNat)
  case atStart => exact ⟨0, false, Nat.zero_le _, rfl, rfl, Lib.hid (by simp), Lib.hid (Below.refl _ _)⟩
  case round =>
    obtain ⟨k, wb, hk, rfl, rfl, HW, BW⟩ := hrel
    by_cases hlt : k < n
    · obtain ⟨x, hx⟩ : ∃ x, b[k]? = some x := ⟨b[k]'(by rw [HN.out]; exact hlt), List.getElem?_eq_getElem (by rw [HN.out]; exact hlt)⟩
      obtain ⟨b1, o1, c1, rv, hv1, _, _, hl1, q0, q1, q2, hr1, _⟩ := (HA2.out.keep BW.out).get hx
      rw [HN.out] at hv1
      simp only [Value.slice.injEq, true_and] at hv1
      obtain ⟨rfl, rfl⟩ := hv1
      obtain ⟨ra, rc, rfl, _, _⟩ := hr1.form
      rw [List.length_map] at q2
      have hdk : decide ((k : Int) < 0) = false := by simp
      have hdn : decide ((n : Int) ≤ (k : Int)) = false := by simp; omega
      have hst := take_any_succ wideC hx
      rw [← HW.out] at hst
      have HST := Lib.hid hst
      have hwx : wideC x = decide (30 < x.row.length) := rfl
      have HWX := Lib.hid hwx
      have hbk : Below w2.heap.size w2 (wr.alloc (.cells #[.bool x.add, .string ⟨x.rel.toArray⟩, .slice ra x.row.length rc] 56)) := balloc BW.out _
      have HBX := Lib.hid hbk
      clear hst hwx hx hr1 hbk
      generalize x.row.length = rn at *
      cases wb with
      | true =>
        go_wp2_with fail
        go_roundw
        case rel => exact ⟨k + 1, true, by omega, rfl, by go_num, Lib.hid (by rw [HST.out]; rfl), HBX⟩
        case measure => simp [intOf]; omega
      | false =>
        by_cases h30 : 30 < rn
        · have hd : (30 : Int) < (rn : Int) := by omega
          have hdd : decide ((30 : Int) < (rn : Int)) = true := decide_eq_true hd
          go_wp2_with fail
          go_roundw
          case rel => exact ⟨k + 1, true, by omega, rfl, by go_num, Lib.hid (by rw [HST.out, HWX.out, decide_eq_true h30]; rfl), HBX⟩
          case measure => simp [intOf]; omega
        · have hd : ¬ ((30 : Int) < (rn : Int)) := by omega
          have hdd : decide ((30 : Int) < (rn : Int)) = false := decide_eq_false hd
          go_wp2_with fail
          go_roundw
          case rel => exact ⟨k + 1, false, by omega, rfl, by go_num, Lib.hid (by rw [HST.out, HWX.out, decide_eq_false h30]; rfl), HBX⟩
          case measure => simp [intOf]; omega
    · obtain rfl : k = n := by omega
      have hw := HW.out
      rw [List.take_of_length_le (by rw [HN.out]; exact Nat.le_refl _)] at hw
      have HWW := Lib.hid hw
      have HBW := Lib.hid (HB2.out.trans (BW.out.mono HB2.out.size))
      have HAW := Lib.hid (awake10 _ (HG.out.below HBW.out))
      clear hw
      cases wb with
      | true =>
        go_wp2_with fail
        refine HAW.out.mono ?_
        rintro e w4 ⟨rfl, hb4⟩
        have HB4 := Lib.hid (HBW.out.trans (hb4.mono HBW.out.size))
        clear hb4
        go_wp2_with fail
        go_ret
        exact ⟨rfl, HB4.out⟩
      | false =>
        by_cases hl : 16384 < S.length
        · have hd : (16384 : Int) < (S.length : Int) := by omega
          have hdd : decide ((16384 : Int) < (S.length : Int)) = true := decide_eq_true hd
          go_wp2_with fail
          refine HAW.out.mono ?_
          rintro e w4 ⟨rfl, hb4⟩
          have HB4 := Lib.hid (HBW.out.trans (hb4.mono HBW.out.size))
          clear hb4
          go_wp2_with fail
          go_ret
          exact ⟨rfl, HB4.out⟩
        · have hd : ¬ ((16384 : Int) < (S.length : Int)) := by omega
          have hdd : decide ((16384 : Int) < (S.length : Int)) = false := decide_eq_false hd
          have HPP := Lib.hid (HBK.out HWW.out.symm (by omega) wr (HG.out.below HBW.out))
          clear HAW
          go_wp2_with fail
          refine HPP.out.mono ?_
          rintro e w4 ⟨cv, rfl, hown4, hb4⟩
          have hat4 := hown4.at (by rw [HN.out]; omega) HRL.out
          obtain ⟨ca, cc, rfl, _, _⟩ := hat4.form
          rw [HN.out] at hat4
          have HB4 := Lib.hid (HBW.out.trans (hb4.mono HBW.out.size))
          have HA4 := Lib.hid ((HA2.out.keep BW.out).keep hb4)
          have HC4 := Lib.hid hat4
          have HAW := Lib.hid (awake10 _ (HG.out.below HB4.out))
          rw [HN.out]
          clear hown4 hat4 hb4
          go_wp2_with fail
          refine HAW.out.mono ?_
          rintro e w5 ⟨rfl, hb5⟩
          have HB5 := Lib.hid (HB4.out.trans (hb5.mono HB4.out.size))
          have HSM := Lib.hid (sameChgs_any w5 _ _ b (HC4.out.keep hb5) (HA4.out.keep hb5))
          clear hb5
          go_wp2_with fail
          refine HSM.out.mono ?_
          rintro e w6 ⟨rfl, hb6⟩
          have HB6 := Lib.hid (HB5.out.trans (hb6.mono HB5.out.size))
          clear hb6
          go_wp2_with fail
          go_ret
          exact ⟨by first | rfl | simp, HB6.out⟩

theorem conce_card (s : ByteArray) (w : World) (hs : s.size ≤ 140737488351232) (hg : Glob w) :
    Calls Tryd.prog 8 #[.string s] w fun e w' => e = .returned (.bool true) ∧ Below w.heap.size w w' := by
  have hp := batch_any s w (by omega) hg
  have hsu := parseB_sure s.data.toList
  cases hq : parseB s.data.toList with
  | bad a f =>
    rw [hq] at hp hsu
    exact conce_bad s w a f hg hp hsu.2.2 hsu.1 hsu.2.1
  | ok b c =>
    rw [hq] at hp hsu
    exact conce_good s w b c hg hp hsu.1 hsu.2 (fun x hx => by have := parseB_rows hq x hx; omega)
end Go.Proofs.YtgilflkgibfjgaaDoor
