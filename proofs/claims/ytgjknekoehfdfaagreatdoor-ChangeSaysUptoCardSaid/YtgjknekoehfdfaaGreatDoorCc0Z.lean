/- osierref10.alike, Same, at equal batches, walked. -/
import Derived.Test.YtgjknekoehfdfaaGreatDoorCh0Z
import Derived.Test.YtgjknekoehfdfaaGreatDoorGr
import Derived.Deep.RegionHeld3
import Derived.Deep.RegionLaw
namespace Go.Proofs.YtgjknekoehfdfaaGreatDoor
open Go.RowKit
set_option linter.unusedVariables false

theorem sameV_self (a : List Vl) : sameV a a = true := by
  unfold sameV
  exact decide_eq_true rfl

set_option maxHeartbeats 4000000 in
set_option maxRecDepth 100000 in
theorem alike_any (w : World) (c : Chg) (rv ru : Value) (h : RowAt w rv 3 (c.row.map Vl.cells)) (h2 : RowAt w ru 3 (c.row.map Vl.cells)) :
    Calls Tryz.prog 40 #[.agg #[.bool c.add, .string ⟨c.rel.toArray⟩, rv], .agg #[.bool c.add, .string ⟨c.rel.toArray⟩, ru]] w fun e w' => e = .returned (.bool true) ∧ Below w.heap.size w w' := by
  have hb0 : Below w.heap.size w ((w.alloc (.cells #[.bool c.add, .string ⟨c.rel.toArray⟩, rv] 30)).alloc (.cells #[.bool c.add, .string ⟨c.rel.toArray⟩, ru] 30)) := balloc (balloc (Below.refl _ _) _) _
  have hsm := sameRow_any _ rv ru c.row c.row (h.keep hb0) (h2.keep hb0)
  rw [sameV_self] at hsm
  obtain ⟨ra, rc, rfl, _, _⟩ := h.form
  obtain ⟨ua, uc, rfl, _, _⟩ := h2.form
  have HSM := Lib.hid hsm
  have HB0 := Lib.hid hb0
  clear h h2 hsm hb0
  generalize (c.row.map Vl.cells).length = n at *
  generalize c.add = ad at *
  generalize c.rel = nm at *
  go_enter Tryz.func40, Tryz.ntmps40
  go_wp2_with fail
  refine HSM.out.mono ?_
  rintro e w6 ⟨rfl, hb6⟩
  have HB6 := Lib.hid (HB0.out.trans (hb6.mono HB0.out.size))
  clear hb6
  go_wp2_with fail
  go_ret
  exact ⟨rfl, HB6.out⟩

/-- The k-th change of two batches. -/
def KC (p q : Addr) (c : Chg) (rv ru : Value) (W0 W : World) : Prop :=
  W.cell? p = some (.bool c.add) ∧ W.cell? ⟨p.block, p.off + 1, none⟩ = some (.string ⟨c.rel.toArray⟩) ∧ W.cell? ⟨p.block, p.off + 2, none⟩ = some rv ∧
  W.cell? q = some (.bool c.add) ∧ W.cell? ⟨q.block, q.off + 1, none⟩ = some (.string ⟨c.rel.toArray⟩) ∧ W.cell? ⟨q.block, q.off + 2, none⟩ = some ru ∧ Below W0.heap.size W0 W
theorem KC.step {p q : Addr} {c : Chg} {rv ru : Value} {W0 W W' : World} (h : KC p q c rv ru W0 W) (h1 : p.block < W0.heap.size) (h2 : q.block < W0.heap.size) (hb : Below W.heap.size W W') : KC p q c rv ru W0 W' := by
  obtain ⟨k0, k1, k2, k3, k4, k5, k6⟩ := h
  have hz := k6.size
  exact ⟨(hb.cell (by omega)).trans k0, (hb.cell (p := ⟨p.block, p.off + 1, none⟩) (by simp only; omega)).trans k1, (hb.cell (p := ⟨p.block, p.off + 2, none⟩) (by simp only; omega)).trans k2, (hb.cell (by omega)).trans k3, (hb.cell (p := ⟨q.block, q.off + 1, none⟩) (by simp only; omega)).trans k4, (hb.cell (p := ⟨q.block, q.off + 2, none⟩) (by simp only; omega)).trans k5, k6.trans (hb.mono hz)⟩

set_option maxHeartbeats 8000000 in
set_option maxRecDepth 100000 in
theorem sameChgs_any (w : World) (va vb : Value) (l : List Chg) (ha : ChgsAt w va l) (hb : ChgsAt w vb l) :
    Calls Tryz.prog 15 #[va, vb] w fun e w' => e = .returned (.bool true) ∧ Below w.heap.size w w' := by
  have hnot : ∀ (x : Bool) (w : World), (Op.unary .not (.bool x)).run Tryz.prog w = .ok (.bool (!x)) w := fun _ _ => rfl
  obtain ⟨aa, ac, rfl, hac, ham⟩ := ha.form
  obtain ⟨ba, bc, rfl, hbc, hbm⟩ := hb.form
  have hla := ha.len
  unfold maxLen at ham hbm
  have HA := Lib.hid ha
  have HB := Lib.hid hb
  clear ha hb
  generalize hN : l.length = n at *
  have HN := Lib.hid hN
  clear hN
  have hnn : ((n : Int) != (n : Int)) = false := by simp
  go_enter Tryz.func15, Tryz.ntmps15
  go_wp2_with fail
  go_loopw [5] (fun i wr => ∃ k : Nat, k ≤ n ∧ i = .int .i64 k ∧ Hid (Below w.heap.size w wr)) (fun i _ => n - (intOf i).toNat)
  case atStart => exact ⟨0, Nat.zero_le _, rfl, Lib.hid (Below.refl _ _)⟩
  case round =>
    obtain ⟨k, hk, rfl, BW⟩ := hrel
    obtain ⟨wo, rfl⟩ : ∃ wo : World, wo = wr := ⟨_, rfl⟩
    by_cases hlt : k < n
    · obtain ⟨c, hc⟩ : ∃ c, l[k]? = some c := ⟨l[k]'(by rw [HN.out]; exact hlt), List.getElem?_eq_getElem (by rw [HN.out]; exact hlt)⟩
      obtain ⟨b1, o1, c1, rv, hv1, _, _, hl1, q0, q1, q2, hr1, _⟩ := (HA.out.keep BW.out).get hc
      obtain ⟨b2, o2, c2, ru, hv2, _, _, hl2, p0, p1, p2, hr2, _⟩ := (HB.out.keep BW.out).get hc
      rw [HN.out] at hv1 hv2
      simp only [Value.slice.injEq, true_and] at hv1 hv2
      obtain ⟨rfl, rfl⟩ := hv1
      obtain ⟨rfl, rfl⟩ := hv2
      obtain ⟨r1a, r1c, rfl, _, _⟩ := hr1.form
      obtain ⟨r2a, r2c, rfl, _, _⟩ := hr2.form
      have hdk : decide ((k : Int) < 0) = false := by simp
      have hdn : decide ((n : Int) ≤ (k : Int)) = false := by simp; omega
      have hne : (c.add != c.add) = false := by simp
      have hbW := Below.refl wo.heap.size wo
      have HAL : Hid (∀ W, KC ⟨b1, o1 + k * 3, none⟩ ⟨b2, o2 + k * 3, none⟩ c (.slice r1a (c.row.map Vl.cells).length r1c) (.slice r2a (c.row.map Vl.cells).length r2c) wo W → Calls Tryz.prog 40 #[.agg #[.bool c.add, .string ⟨c.rel.toArray⟩, .slice r1a (c.row.map Vl.cells).length r1c], .agg #[.bool c.add, .string ⟨c.rel.toArray⟩, .slice r2a (c.row.map Vl.cells).length r2c]] W fun e w' => e = .returned (.bool true) ∧ KC ⟨b1, o1 + k * 3, none⟩ ⟨b2, o2 + k * 3, none⟩ c (.slice r1a (c.row.map Vl.cells).length r1c) (.slice r2a (c.row.map Vl.cells).length r2c) wo w') :=
        Lib.hid fun W h => (alike_any W c _ _ (hr1.keep h.2.2.2.2.2.2) (hr2.keep h.2.2.2.2.2.2)).mono fun e w' hh => ⟨hh.1, h.step hl1 hl2 hh.2⟩
      unfold KC at HAL
      clear hr1 hr2 hc
      generalize (c.row.map Vl.cells).length = rn at *
      go_wp2_with fail
      go_region_held3 (fun w' => w'.cell? ⟨b1, o1 + k * 3, none⟩ = some (.bool c.add) ∧ w'.cell? ⟨b1, o1 + k * 3 + 1, none⟩ = some (.string ⟨c.rel.toArray⟩) ∧ w'.cell? ⟨b1, o1 + k * 3 + 2, none⟩ = some (.slice r1a rn r1c) ∧ w'.cell? ⟨b2, o2 + k * 3, none⟩ = some (.bool c.add) ∧ w'.cell? ⟨b2, o2 + k * 3 + 1, none⟩ = some (.string ⟨c.rel.toArray⟩) ∧ w'.cell? ⟨b2, o2 + k * 3 + 2, none⟩ = some (.slice r2a rn r2c) ∧ Below wo.heap.size wo w')
        (first | exact hK | (go_split_ands; refine ⟨?_, ?_, ?_, ?_, ?_, ?_, ?_⟩ <;> first | exact bdrew (by assumption) | assumption | go_keep))
        (first | (go_at_call 40; go_split_ands; refine (HAL.out _ ⟨by assumption, by assumption, by assumption, by assumption, by assumption, by assumption, by assumption⟩).mono ?_; rintro e w' ⟨rfl, hK⟩))
      all_goals go_split_ands
      all_goals
        go_wp2_with fail
        go_roundw
        case rel => exact ⟨k + 1, by omega, by go_num, Lib.hid (BW.out.trans (Below.mono (by assumption) BW.out.size))⟩
        case measure => simp [intOf]; omega
    · obtain rfl : k = n := by omega
      go_wp2_with fail
      go_ret
      exact ⟨rfl, BW.out⟩
end Go.Proofs.YtgjknekoehfdfaaGreatDoor
