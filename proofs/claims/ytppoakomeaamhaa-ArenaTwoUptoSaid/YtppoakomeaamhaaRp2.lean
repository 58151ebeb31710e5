/- The document's arena, walked: pick, Room. -/
import Derived.Test.YtppoakomeaamhaaRp1
namespace Go.Proofs.Ytppoakomeaamhaa
open Go.RowKit
set_option linter.unusedVariables false

/-- Every number of the entries is small. -/
def Small (all : List One) : Prop := ∀ (i : Nat) (o : One), all[i]? = some o → 0 ≤ o.slot ∧ o.slot ≤ 1048576 ∧ 0 ≤ o.gen ∧ o.gen ≤ 2000000000 ∧ 0 ≤ o.back ∧ o.back ≤ 1000000000000
theorem highN_range {all : List One} (h : Small all) : ∀ k, -1 ≤ highN all k ∧ highN all k ≤ 1048576 := by
  intro k
  induction k with
  | zero => simp [highN]
  | succ k ih =>
    unfold highN
    cases hk : all[k]? with
    | none => exact ih
    | some o =>
      have := h k o hk
      simp only
      split <;> omega
theorem bestN_range {all : List One} {gens : Int} (h : Small all) : ∀ k, -1 ≤ (bestN all gens k).1 ∧ (bestN all gens k).1 ≤ 1048576 ∧ -1 ≤ (bestN all gens k).2 ∧ (bestN all gens k).2 ≤ 1000000000000 := by
  intro k
  induction k with
  | zero => simp [bestN]
  | succ k ih =>
    unfold bestN
    cases hk : all[k]? with
    | none => exact ih
    | some o =>
      have := h k o hk
      simp only
      split
      · omega
      · exact ih

set_option maxHeartbeats 8000000 in
set_option maxRecDepth 100000 in
theorem pick_ref (w : World) (d : Nat) (slots gens clock : Int) (all : List One) (va : Value) (h : DRep w d slots gens all clock va) (hl : all.length ≤ 1000000000000) (hs : Small all) (hs0 : 0 ≤ slots) (hs1 : slots ≤ 2000000) :
    Calls Try.prog 42 #[.pointer (some ⟨d, 0, none⟩)] w fun e w' => e = .returned (.int .i64 (pickL all slots gens)) ∧ Below w.heap.size w w' := by
  obtain ⟨a, cap, rfl, hm⟩ := own_len h.all
  have x0 := h.blk.cell 0
  have x1 := h.blk.cell 1
  have x2 := h.blk.cell 2
  simp at x0 x1 x2
  have hd := h.blk.lt
  have H := Lib.hid h
  have X0 := Lib.hid x0
  have X1 := Lib.hid x1
  have X2 := Lib.hid x2
  have HS := Lib.hid hs
  clear h hm x0 x1 x2 hs
  go_enter Try.func42, Try.ntmps42
  go_wp2_with fail
  go_loopw [6, 5, 3, 4] (fun ix hx bx nx wr => ∃ (k : Nat) (hi be wn : Int), k ≤ all.length ∧ ix = .int .i64 k ∧ hx = .int .i64 hi ∧ bx = .int .i64 be ∧ nx = .int .i64 wn ∧ Hid (hi = highN all k) ∧ Hid ((be, wn) = bestN all gens k) ∧ Below w.heap.size w wr) (fun ix _ _ _ _ => all.length - (intOf ix).toNat)
  case atStart => exact ⟨0, -1, -1, -1, Nat.zero_le _, rfl, rfl, rfl, rfl, rfl, rfl, Below.refl _ _⟩
  case round =>
    obtain ⟨k, hi, be, wn, hk, rfl, rfl, rfl, rfl, heh, heb, hbr⟩ := hrel
    have x0 := (hbr.cell (p := ⟨d, 0, none⟩) hd).trans X0.out
    have x1 := (hbr.cell (p := ⟨d, 1, none⟩) hd).trans X1.out
    have x2 := (hbr.cell (p := ⟨d, 2, none⟩) hd).trans X2.out
    have hr1 := highN_range HS.out k
    have hr2 := bestN_range (gens := gens) HS.out k
    rw [← heh.out] at hr1
    rw [← heb.out] at hr2
    simp only at hr2
    have hsz := hbr.size
    have HR := Lib.hid (H.out.keep hbr)
    have HB := Lib.hid hbr
    clear hbr
    by_cases hlt : k < all.length
    · obtain ⟨g, o, rfl, hg, hc, ho⟩ := HR.out.entry hlt
      obtain ⟨d0, d1, d2, d3, d4⟩ := HR.out.at ho
      obtain ⟨s1, s2, s3, s4, s5, s6⟩ := HS.out k o ho
      have HO := Lib.hid ho
      have hdr : d < wr.heap.size := by omega
      clear ho
      have hh : highN all (k + 1) = if hi < o.slot then o.slot else hi := by rw [highN_succ HO.out, ← heh.out]
      have HH := Lib.hid hh
      clear hh
      have hor : o.alive = true ∨ (o.alive = false ∧ decide (o.gen < gens) = false) ∨ (o.alive = false ∧ decide (o.gen < gens) = true ∧ (lastL all o.slot == (k : Int)) = false) ∨
          (o.alive = false ∧ decide (o.gen < gens) = true ∧ (lastL all o.slot == (k : Int)) = true ∧ decide (wn < o.back) = false) ∨ (o.alive = false ∧ decide (o.gen < gens) = true ∧ (lastL all o.slot == (k : Int)) = true ∧ decide (wn < o.back) = true) := by
        by_cases e1 : o.alive = true
        · exact .inl e1
        · have e1 : o.alive = false := by simpa using e1
          by_cases e2 : o.gen < gens
          · by_cases e3 : lastL all o.slot = (k : Int)
            · by_cases e4 : wn < o.back
              · exact .inr (.inr (.inr (.inr ⟨e1, decide_eq_true e2, beq_iff_eq.2 e3, decide_eq_true e4⟩)))
              · exact .inr (.inr (.inr (.inl ⟨e1, decide_eq_true e2, beq_iff_eq.2 e3, decide_eq_false e4⟩)))
            · exact .inr (.inr (.inl ⟨e1, decide_eq_true e2, beq_eq_false_iff_ne.2 e3⟩))
          · exact .inr (.inl ⟨e1, decide_eq_false e2⟩)
      have hgo : decide (hi < o.slot) = true ∧ Hid (highN all (k + 1) = o.slot) ∨ decide (hi < o.slot) = false ∧ Hid (highN all (k + 1) = hi) := by
        by_cases hgt : hi < o.slot
        · exact .inl ⟨decide_eq_true hgt, Lib.hid (by rw [HH.out, if_pos hgt])⟩
        · exact .inr ⟨decide_eq_false hgt, Lib.hid (by rw [HH.out, if_neg hgt])⟩
      rcases hor with h1 | ⟨h1, h2⟩ | ⟨h1, h2, h3⟩ | ⟨h1, h2, h3, h4⟩ | ⟨h1, h2, h3, h4⟩
      · have HBE : Hid ((be, wn) = bestN all gens (k + 1)) := Lib.hid (by rw [bestN_no HO.out (fun hc => by have := hc.1.1; rw [h1] at this; cases this)]; exact heb.out)
        rw [h1] at d3
        clear h1 heb heh HH
        rcases hgo with ⟨hgo, HH⟩ | ⟨hgo, HH⟩
        all_goals
          go_wp2_with fail
          go_quiet ((go_at_call 35; exact Calls.quiet_of_same (last_any _ d slots gens clock all _ (HR.out.keep (bdrewN (balloc (Below.refl _ _) _) _)) hl o.slot)))
          go_wp2_with fail
          go_roundw
          case rel => exact ⟨k + 1, _, _, _, by omega, by go_num, rfl, rfl, rfl, Lib.hid HH.out.symm, HBE, bdrewN (balloc HB.out _) _⟩
          case measure => simp only [intOf]; omega
      · have HBE : Hid ((be, wn) = bestN all gens (k + 1)) := Lib.hid (by rw [bestN_no HO.out (fun hc => by have := hc.1.2.1; rw [decide_eq_false_iff_not] at h2; exact h2 this)]; exact heb.out)
        rw [h1] at d3
        clear h1 heb heh HH
        rcases hgo with ⟨hgo, HH⟩ | ⟨hgo, HH⟩
        all_goals
          go_wp2_with fail
          go_quiet ((go_at_call 35; exact Calls.quiet_of_same (last_any _ d slots gens clock all _ (HR.out.keep (bdrewN (balloc (Below.refl _ _) _) _)) hl o.slot)))
          go_wp2_with fail
          go_roundw
          case rel => exact ⟨k + 1, _, _, _, by omega, by go_num, rfl, rfl, rfl, Lib.hid HH.out.symm, HBE, bdrewN (balloc HB.out _) _⟩
          case measure => simp only [intOf]; omega
      · have HBE : Hid ((be, wn) = bestN all gens (k + 1)) := Lib.hid (by rw [bestN_no HO.out (fun hc => by have := hc.1.2.2; rw [beq_eq_false_iff_ne] at h3; exact h3 this)]; exact heb.out)
        rw [h1] at d3
        clear h1 heb heh HH
        rcases hgo with ⟨hgo, HH⟩ | ⟨hgo, HH⟩
        all_goals
          go_wp2_with fail
          go_quiet ((go_at_call 35; exact Calls.quiet_of_same (last_any _ d slots gens clock all _ (HR.out.keep (bdrewN (balloc (Below.refl _ _) _) _)) hl o.slot)))
          go_wp2_with fail
          go_roundw
          case rel => exact ⟨k + 1, _, _, _, by omega, by go_num, rfl, rfl, rfl, Lib.hid HH.out.symm, HBE, bdrewN (balloc HB.out _) _⟩
          case measure => simp only [intOf]; omega
      · have HBE : Hid ((be, wn) = bestN all gens (k + 1)) := Lib.hid (by rw [bestN_no HO.out (fun hc => by have := hc.2; rw [← heb.out] at this; rw [decide_eq_false_iff_not] at h4; exact h4 this)]; exact heb.out)
        rw [h1] at d3
        clear h1 heb heh HH
        rcases hgo with ⟨hgo, HH⟩ | ⟨hgo, HH⟩
        all_goals
          go_wp2_with fail
          go_quiet ((go_at_call 35; exact Calls.quiet_of_same (last_any _ d slots gens clock all _ (HR.out.keep (bdrewN (balloc (Below.refl _ _) _) _)) hl o.slot)))
          go_wp2_with fail
          go_roundw
          case rel => exact ⟨k + 1, _, _, _, by omega, by go_num, rfl, rfl, rfl, Lib.hid HH.out.symm, HBE, bdrewN (balloc HB.out _) _⟩
          case measure => simp only [intOf]; omega
      · have HBE : Hid ((o.slot, o.back) = bestN all gens (k + 1)) := Lib.hid (by rw [bestN_yes HO.out ⟨h1, of_decide_eq_true h2, eq_of_beq h3⟩ (by rw [← heb.out]; exact of_decide_eq_true h4)])
        rw [h1] at d3
        clear h1 heb heh HH
        rcases hgo with ⟨hgo, HH⟩ | ⟨hgo, HH⟩
        all_goals
          go_wp2_with fail
          go_quiet ((go_at_call 35; exact Calls.quiet_of_same (last_any _ d slots gens clock all _ (HR.out.keep (bdrewN (balloc (Below.refl _ _) _) _)) hl o.slot)))
          go_wp2_with fail
          go_quiet (fail)
          go_wp2_with fail
          go_roundw
          case rel => exact ⟨k + 1, _, _, _, by omega, by go_num, rfl, rfl, rfl, Lib.hid HH.out.symm, HBE, bdrewN (balloc HB.out _) _⟩
          case measure => simp only [intOf]; omega
    · have hke : k = all.length := by omega
      subst hke
      have HP : Hid (pickL all slots gens = if be < 0 ∧ hi < slots - 1 then hi + 1 else be) := Lib.hid (by unfold pickL; rw [← heh.out, ← heb.out])
      clear heh heb
      by_cases c1 : be < 0
      · by_cases c2 : hi < slots - 1
        · have e := HP.out
          rw [if_pos ⟨c1, c2⟩] at e
          have HE := Lib.hid e.symm
          clear e HP
          go_wp2_with fail
          go_ret
          exact ⟨retI HE.out, HB.out⟩
        · have e := HP.out
          rw [if_neg (fun h => c2 h.2)] at e
          have HE := Lib.hid e.symm
          have k2 : decide (hi < slots - 1) = false := decide_eq_false c2
          clear e HP c2
          go_wp2_with fail
          go_ret
          exact ⟨retI HE.out, HB.out⟩
      · have e := HP.out
        rw [if_neg (fun h => c1 h.1)] at e
        have HE := Lib.hid e.symm
        have k2 : decide (be < 0) = false := decide_eq_false c1
        clear e HP c1
        go_wp2_with fail
        go_ret
        exact ⟨retI HE.out, HB.out⟩

set_option maxHeartbeats 8000000 in
set_option maxRecDepth 100000 in
theorem room_ref (w : World) (d : Nat) (slots gens clock : Int) (all : List One) (va : Value) (h : DRep w d slots gens all clock va) (hl : all.length ≤ 1000000000000) (hs : Small all) (hs0 : 0 ≤ slots) (hs1 : slots ≤ 2000000) :
    Calls Try.prog 24 #[.pointer (some ⟨d, 0, none⟩)] w fun e w' => e = .returned (.int .i64 (slots - 1 - highN all all.length + ((freeN all gens all.length : Nat) : Int))) ∧ Below w.heap.size w w' := by
  obtain ⟨a, cap, rfl, hm⟩ := own_len h.all
  have x0 := h.blk.cell 0
  have x1 := h.blk.cell 1
  have x2 := h.blk.cell 2
  simp at x0 x1 x2
  have hd := h.blk.lt
  have H := Lib.hid h
  have X0 := Lib.hid x0
  have X1 := Lib.hid x1
  have X2 := Lib.hid x2
  have HS := Lib.hid hs
  clear h hm x0 x1 x2 hs
  go_enter Try.func24, Try.ntmps24
  go_wp2_with fail
  go_loopw [5, 3, 4] (fun ix hx fx wr => ∃ (k : Nat) (hi : Int) (n : Nat), k ≤ all.length ∧ n ≤ k ∧ ix = .int .i64 k ∧ hx = .int .i64 hi ∧ fx = .int .i64 n ∧ Hid (hi = highN all k) ∧ Hid (n = freeN all gens k) ∧ Below w.heap.size w wr) (fun ix _ _ _ => all.length - (intOf ix).toNat)
  case atStart => exact ⟨0, -1, 0, Nat.zero_le _, Nat.zero_le _, rfl, rfl, rfl, rfl, rfl, Below.refl _ _⟩
  case round =>
    obtain ⟨k, hi, n, hk, hnk, rfl, rfl, rfl, heh, hef, hbr⟩ := hrel
    have x0 := (hbr.cell (p := ⟨d, 0, none⟩) hd).trans X0.out
    have x1 := (hbr.cell (p := ⟨d, 1, none⟩) hd).trans X1.out
    have x2 := (hbr.cell (p := ⟨d, 2, none⟩) hd).trans X2.out
    have hr1 := highN_range HS.out k
    rw [← heh.out] at hr1
    have hsz := hbr.size
    have HR := Lib.hid (H.out.keep hbr)
    have HB := Lib.hid hbr
    clear hbr
    by_cases hlt : k < all.length
    · obtain ⟨g, o, rfl, hg, hc, ho⟩ := HR.out.entry hlt
      obtain ⟨d0, d1, d2, d3, d4⟩ := HR.out.at ho
      obtain ⟨s1, s2, s3, s4, s5, s6⟩ := HS.out k o ho
      have HO := Lib.hid ho
      have hdr : d < wr.heap.size := by omega
      clear ho
      have hh : highN all (k + 1) = if hi < o.slot then o.slot else hi := by rw [highN_succ HO.out, ← heh.out]
      have HH := Lib.hid hh
      clear hh
      have hor : o.alive = true ∨ (o.alive = false ∧ decide (o.gen < gens) = false) ∨ (o.alive = false ∧ decide (o.gen < gens) = true ∧ (lastL all o.slot == (k : Int)) = false) ∨ (o.alive = false ∧ decide (o.gen < gens) = true ∧ (lastL all o.slot == (k : Int)) = true) := by
        by_cases e1 : o.alive = true
        · exact .inl e1
        · have e1 : o.alive = false := by simpa using e1
          by_cases e2 : o.gen < gens
          · by_cases e3 : lastL all o.slot = (k : Int)
            · exact .inr (.inr (.inr ⟨e1, decide_eq_true e2, beq_iff_eq.2 e3⟩))
            · exact .inr (.inr (.inl ⟨e1, decide_eq_true e2, beq_eq_false_iff_ne.2 e3⟩))
          · exact .inr (.inl ⟨e1, decide_eq_false e2⟩)
      have hgo : decide (hi < o.slot) = true ∧ Hid (highN all (k + 1) = o.slot) ∨ decide (hi < o.slot) = false ∧ Hid (highN all (k + 1) = hi) := by
        by_cases hgt : hi < o.slot
        · exact .inl ⟨decide_eq_true hgt, Lib.hid (by rw [HH.out, if_pos hgt])⟩
        · exact .inr ⟨decide_eq_false hgt, Lib.hid (by rw [HH.out, if_neg hgt])⟩
      rcases hor with h1 | ⟨h1, h2⟩ | ⟨h1, h2, h3⟩ | ⟨h1, h2, h3⟩
      · have HBE : Hid (n = freeN all gens (k + 1)) := Lib.hid (by rw [freeN_no HO.out (fun hc => by have := hc.1; rw [h1] at this; cases this)]; exact hef.out)
        rw [h1] at d3
        clear h1 hef heh HH
        rcases hgo with ⟨hgo, HH⟩ | ⟨hgo, HH⟩
        all_goals
          go_wp2_with fail
          go_quiet ((go_at_call 35; exact Calls.quiet_of_same (last_any _ d slots gens clock all _ (HR.out.keep (bdrewN (balloc (Below.refl _ _) _) _)) hl o.slot)))
          go_wp2_with fail
          go_roundw
          case rel => exact ⟨k + 1, _, _, by omega, by omega, by go_num, rfl, rfl, Lib.hid HH.out.symm, HBE, bdrewN (balloc HB.out _) _⟩
          case measure => simp only [intOf]; omega
      · have HBE : Hid (n = freeN all gens (k + 1)) := Lib.hid (by rw [freeN_no HO.out (fun hc => by have := hc.2.1; rw [decide_eq_false_iff_not] at h2; exact h2 this)]; exact hef.out)
        rw [h1] at d3
        clear h1 hef heh HH
        rcases hgo with ⟨hgo, HH⟩ | ⟨hgo, HH⟩
        all_goals
          go_wp2_with fail
          go_quiet ((go_at_call 35; exact Calls.quiet_of_same (last_any _ d slots gens clock all _ (HR.out.keep (bdrewN (balloc (Below.refl _ _) _) _)) hl o.slot)))
          go_wp2_with fail
          go_roundw
          case rel => exact ⟨k + 1, _, _, by omega, by omega, by go_num, rfl, rfl, Lib.hid HH.out.symm, HBE, bdrewN (balloc HB.out _) _⟩
          case measure => simp only [intOf]; omega
      · have HBE : Hid (n = freeN all gens (k + 1)) := Lib.hid (by rw [freeN_no HO.out (fun hc => by have := hc.2.2; rw [beq_eq_false_iff_ne] at h3; exact h3 this)]; exact hef.out)
        rw [h1] at d3
        clear h1 hef heh HH
        rcases hgo with ⟨hgo, HH⟩ | ⟨hgo, HH⟩
        all_goals
          go_wp2_with fail
          go_quiet ((go_at_call 35; exact Calls.quiet_of_same (last_any _ d slots gens clock all _ (HR.out.keep (bdrewN (balloc (Below.refl _ _) _) _)) hl o.slot)))
          go_wp2_with fail
          go_roundw
          case rel => exact ⟨k + 1, _, _, by omega, by omega, by go_num, rfl, rfl, Lib.hid HH.out.symm, HBE, bdrewN (balloc HB.out _) _⟩
          case measure => simp only [intOf]; omega
      · have HBE : Hid (n + 1 = freeN all gens (k + 1)) := Lib.hid (by rw [freeN_yes HO.out ⟨h1, of_decide_eq_true h2, eq_of_beq h3⟩, ← hef.out])
        rw [h1] at d3
        clear h1 hef heh HH
        rcases hgo with ⟨hgo, HH⟩ | ⟨hgo, HH⟩
        all_goals
          go_wp2_with fail
          go_quiet ((go_at_call 35; exact Calls.quiet_of_same (last_any _ d slots gens clock all _ (HR.out.keep (bdrewN (balloc (Below.refl _ _) _) _)) hl o.slot)))
          go_wp2_with fail
          go_roundw
          case rel => exact ⟨k + 1, _, n + 1, by omega, by omega, by go_num, rfl, by go_num, Lib.hid HH.out.symm, HBE, bdrewN (balloc HB.out _) _⟩
          case measure => simp only [intOf]; omega
    · have hke : k = all.length := by omega
      subst hke
      go_wp2_with fail
      go_ret
      exact ⟨retI (by rw [heh.out, hef.out]), HB.out⟩
end Go.Proofs.Ytppoakomeaamhaa
