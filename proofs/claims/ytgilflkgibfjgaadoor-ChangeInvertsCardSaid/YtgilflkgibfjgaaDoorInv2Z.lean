/- osierref10.Invert, walked. -/
import Derived.Test.YtgilflkgibfjgaaDoorInv1Z
import Derived.Test.YtgilflkgibfjgaaDoorBe
namespace Go.Proofs.YtgilflkgibfjgaaDoor
open Go.RowKit
set_option linter.unusedVariables false

theorem flat_set {sz : Nat} (hz : 0 < sz) : ∀ (rows : List (List Value)) (j : Nat) (x : List Value) (u : Value), (∀ y ∈ rows, y.length = sz) → rows[j]? = some x → rows.flatten.set (j * sz) u = (rows.set j (x.set 0 u)).flatten
  | [], j, x, u, _, h => by simp at h
  | a :: l, 0, x, u, hl, h => by
    simp at h
    subst h
    have ha := hl a List.mem_cons_self
    rw [List.flatten_cons, Nat.zero_mul, List.set_append_left _ _ (by omega)]
    rfl
  | a :: l, j + 1, x, u, hl, h => by
    have ha := hl a List.mem_cons_self
    have ih := flat_set hz l j x u (fun y hy => hl y (List.mem_cons_of_mem _ hy)) (by simpa using h)
    rw [List.flatten_cons, List.set_append_right _ _ (by rw [ha, Nat.succ_mul]; omega), List.set_cons_succ, List.flatten_cons, ← ih]
    congr 2
    rw [ha, Nat.succ_mul]
    omega
theorem drop_set {α : Type} {l : List α} {m : Nat} {x : α} (h : m < l.length) : (l.set m x).drop m = x :: l.drop (m + 1) := by
  rw [List.drop_eq_getElem_cons (by rw [List.length_set]; exact h), List.getElem_set_self, List.drop_set_of_lt (by omega)]
theorem inv_get {b : List Chg} {k m : Nat} {c : Chg} (h : b[k]? = some c) (hm : m + 1 + k = b.length) : (invB b).drop m = flipC c :: (invB b).drop (m + 1) := by
  have hk := (List.getElem?_eq_some_iff.1 h).1
  have hx : (invB b)[m]? = some (flipC c) := by
    unfold invB
    rw [List.getElem?_reverse (by rw [List.length_map]; omega), List.length_map, show b.length - 1 - m = k by omega, List.getElem?_map, h]
    rfl
  rw [List.drop_eq_getElem_cons (List.getElem?_eq_some_iff.1 hx).1, (List.getElem?_eq_some_iff.1 hx).2]

set_option maxHeartbeats 8000000 in
set_option maxRecDepth 100000 in
theorem refInv_any (w : World) (v : Value) (l : List Chg) (h : ChgsAt w v l) (hn : l.length ≤ 2932031007402) :
    Calls Tryd.prog 50 #[v] w fun e w' => ∃ v', e = .returned v' ∧ ChgsOwn w.heap.size w' v' (invB l) ∧ Below w.heap.size w w' := by
  obtain ⟨ic, hic, hc0, hc1, hc2⟩ := info_parts Tryd.infoCg
  have hcp := copyB_any w v l h hn
  have hrl := h.rows
  obtain ⟨ad, cap, rfl, hnc, hcm⟩ := h.form
  unfold maxLen at hcm
  have HCP := Lib.hid hcp
  have HRLN := Lib.hid hrl
  obtain ⟨R, hR⟩ : ∃ R, R = invB l := ⟨_, rfl⟩
  have HRR := Lib.hid hR
  have hRl : R.length = l.length := by rw [hR, inv_len]
  rw [← hR]
  have HRL := Lib.hid hRl
  clear h hcp hR hRl hrl
  generalize hN : l.length = n at *
  have HN := Lib.hid hN
  clear hN
  go_enter Tryd.func50, Tryd.ntmps50
  go_wp2_with fail
  refine HCP.out.mono ?_
  rintro e w1 ⟨cv, rfl, hown1, hb1⟩
  have hat := hown1.at (by rw [HN.out]; omega) HRLN.out
  obtain ⟨ca, cc, rfl, _, hccm⟩ := hat.form
  obtain ⟨rows1, hr1, hal1⟩ := hown1
  rw [HN.out] at hat hr1
  have HAT := Lib.hid hat
  have HB1 := Lib.hid hb1
  have HAL1 := Lib.hid hal1
  have hw1 := hb1.size
  rw [HN.out]
  have HR1 := Lib.hid hr1
  clear hat hb1 hal1 hr1 HCP
  unfold maxLen at hccm
  go_wp2_with (at_make; refine wpList_make_full _ rfl _ _ 50 rfl w.heap.size 56 ic (.agg #[.bool false, .string ⟨#[]⟩, .slice none 0 0]) 3 Tryd.underlying50 hic hc0 hc1 _ _ _ _ n rfl rfl rfl rfl ?b2 ?b3 ?b4 ?_)
  case b2 => rw [hc2]; omega
  case b3 => unfold maxLen; omega
  case b4 => omega
  intro w5 hown5 hgrow5
  obtain ⟨rows0, hr0, hr1, hr2⟩ := split_rows 3 n _ hown5.1
  rw [← hr2] at hown5
  have hb5 : Below w1.heap.size w1 w5 := Below.grown (Below.refl _ _) hgrow5 (Nat.le_refl _) (fun q hq => by cases hq)
  have HO5 := Lib.hid hown5
  have HB5 := Lib.hid hb5
  have HRW := Lib.hid (And.intro hr0 hr1)
  clear hown5 hgrow5 hb5 hr0 hr1 hr2
  go_wp2_with fail
  go_loopw [5] (fun i wr => ∃ (k m : Nat) (rows : List (List Value)), m + k = n ∧ i = .int .i64 k ∧ Hid (wr.ownsRow w.heap.size 56 3 (.slice (some ⟨w1.heap.size, 0, none⟩) n n) n rows.flatten) ∧ Hid (rows.length = n ∧ ∀ x ∈ rows, x.length = 3) ∧ Hid (All2 (ChgO w.heap.size wr) (rows.drop m) (R.drop m)) ∧ Hid (Below w1.heap.size w1 wr)) (fun i _ => n - (intOf i).toNat)
  case atStart => exact ⟨0, n, rows0, rfl, rfl, HO5, HRW, Lib.hid (by rw [List.drop_eq_nil_of_le (by rw [HRW.out.1]; exact Nat.le_refl _), List.drop_eq_nil_of_le (by rw [HRL.out]; exact Nat.le_refl _)]; trivial), HB5⟩
  case round =>
    obtain ⟨k, m0, rows, hk, rfl, OW, RL, AL, BW⟩ := hrel
    obtain ⟨wo, rfl⟩ : ∃ wo : World, wo = wr := ⟨_, rfl⟩
    cases m0 with
    | succ m =>
      have hkn : k < n := by omega
      obtain ⟨c, hc⟩ : ∃ c, l[k]? = some c := ⟨l[k]'(by rw [HN.out]; exact hkn), List.getElem?_eq_getElem (by rw [HN.out]; exact hkn)⟩
      obtain ⟨row1, hrow1, rv, rfl, hrv⟩ := HAL1.out.get hc
      obtain ⟨ra, rc, rfl⟩ := own_sl hrv
      have ho1 := (MT.ofBelow (B := 0) (Ts := []) BW.out).ownsRow HR1.out (by simp)
      obtain ⟨g1, cap1, hv, _, hg1⟩ := ho1.form (by omega)
      have hg2 := HR1.out.lt g1 (by rw [hv]; rfl)
      simp only [Value.slice.injEq, true_and] at hv
      obtain ⟨rfl, rfl⟩ := hv
      have hl1 : ∀ x ∈ rows1, x.length = 3 := fun x hx => by
        obtain ⟨a, _, rv, rfl, _⟩ := all2_mem HAL1.out x hx
        rfl
      have q0 := (ho1.cellAt (k * 3) (by omega)).trans (by simpa using flatten_at hl1 hrow1 (j := 0) rfl)
      have q1 := (ho1.cellAt (k * 3 + 1) (by omega)).trans (flatten_at hl1 hrow1 (j := 1) rfl)
      have q2 := (ho1.cellAt (k * 3 + 2) (by omega)).trans (flatten_at hl1 hrow1 (j := 2) rfl)
      have hmn : m < n := by omega
      have e1 : (n : Int) - 1 - (k : Int) = (m : Int) := by omega
      have hdk : decide ((k : Int) < 0) = false := by simp
      have hdn : decide ((n : Int) ≤ (k : Int)) = false := by simp; omega
      have hdm : decide ((m : Int) < 0) = false := by simp
      have hdm2 : decide ((n : Int) ≤ (m : Int)) = false := by simp; omega
      have hir := inv_get hc (by rw [HN.out]; omega)
      rw [← HRR.out] at hir
      have hrv2 := (MT.ofBelow (B := 0) (Ts := []) BW.out).ownsRow hrv (by simp)
      have HIR := Lib.hid hir
      have HRV := Lib.hid hrv2
      have HO1K := Lib.hid ho1
      have hbw := BW.out.size
      clear hc hrow1 hrv ho1 hir hrv2 hl1
      generalize hRN : c.row.length = rn at *
      have HRN := Lib.hid hRN
      clear hRN
      go_wp2_with (refine wpList_store_elem rfl 56 _ _ rfl w1.heap.size m 56 3 w.heap.size n n rows _ rfl rfl OW.out RL.out.2 RL.out.1 hmn rfl (by kernel_rfl) (by simp [Value.oneCell']) ?_)
      intro w7 h7 m7 z7
      have q07 := (m7.cell (p := ⟨g1, k * 3, none⟩) hg1 (by simp only; omega)).trans q0
      obtain ⟨⟨y0, hy0⟩, hz0, hgl⟩ := own_cell h7 hmn (j := 0) (by decide)
      simp only [Nat.add_zero] at hy0 hz0
      have hg17 : g1 < w7.heap.size := by omega
      have H7 := Lib.hid h7
      have M7 := Lib.hid m7
      clear h7 m7 z7 q0 q1 q2
      have hrn : c.row.length = rn := HRN.out
      have hst := (H7.out.stored (m * 3) (.bool (!c.add))).1
      have hset : (rows.set m [.bool c.add, .string ⟨c.rel.toArray⟩, .slice ra rn rc])[m]? = some [.bool c.add, .string ⟨c.rel.toArray⟩, .slice ra rn rc] := List.getElem?_set_self (by rw [RL.out.1]; exact hmn)
      rw [flat_set (by decide) _ m _ _ (set_all RL.out.2 rfl) hset, List.set_set] at hst
      have mst : Mod (fun j => j = w1.heap.size) w7 (w7.setCell ⟨w1.heap.size, m * 3, none⟩ (.bool (!c.add))) := (Mod.refl (fun k => k = w1.heap.size) w7).setCell (p := ⟨w1.heap.size, m * 3, none⟩) (fun _ => rfl) _
      have mtt := (mt_own (Ts := [56]) M7.out OW.out (by simp)).trans (mt_own (Ts := [56]) mst H7.out (by simp))
      have hall : All2 (ChgO w.heap.size (w7.setCell ⟨w1.heap.size, m * 3, none⟩ (.bool (!c.add)))) ((rows.set m [.bool (!c.add), .string ⟨c.rel.toArray⟩, .slice ra rn rc]).drop m) (R.drop m) := by
        rw [drop_set (by rw [RL.out.1]; exact hmn), HIR.out]
        refine ⟨⟨_, rfl, ?_⟩, AL.out.mono fun q a hh => hh.mt mtt (by decide)⟩
        show World.ownsRow _ _ _ _ _ c.row.length (c.row.map Vl.cells).flatten
        rw [hrn]
        exact mtt.ownsRow HRV.out (by decide)
      have HS := Lib.hid hst
      have HAL := Lib.hid hall
      have HB7 := Lib.hid (Mod.own (Mod.own BW.out M7.out (Nat.le_refl _)) mst (Nat.le_refl _))
      clear hst hset mst mtt hall hrn
      go_wp2_with fail
      go_roundw
      case rel => exact ⟨k + 1, m, _, by omega, by go_num, HS, Lib.hid ⟨by rw [List.length_set]; exact RL.out.1, set_all RL.out.2 rfl⟩, HAL, HB7⟩
      case measure => simp [intOf]; omega
    | zero =>
      obtain rfl : k = n := by omega
      have hal := AL.out
      simp only [List.drop_zero] at hal
      have HAL := Lib.hid hal
      clear hal
      go_wp2_with fail
      go_ret
      exact ⟨_, rfl, ⟨rows, by rw [HRL.out]; exact OW.out, HAL.out⟩, HB1.out.trans (BW.out.mono hw1)⟩
end Go.Proofs.YtgilflkgibfjgaaDoor
