/- osierref01.unit, walked. -/
import Derived.Test.YthfibaajmbhdkaaDoorVsm
namespace Go.Proofs.YthfibaajmbhdkaaDoor
open Go.RowKit
set_option linter.unusedVariables false

def unitP (l : List UInt8) (c : Int) : Prop := (showB c).length = 2 ∧ 2 ≤ l.length ∧ l.take 2 = showB c
def unitQ (l : List UInt8) (c : Int) : Prop := 4 ≤ l.length ∧ (l.take 4).map low = [92, 120, hexd (c / 16), hexd (c % 16)] ∧ bt l 1 = 120

theorem low_hex : ∀ b : Fin 256, ∀ d : Fin 16, low (UInt8.ofNat b.val) = hexd d.val ↔ hexI (b.val : Int) = d.val := by decide +kernel
theorem low_hex' (b : UInt8) {d : Int} (h0 : 0 ≤ d) (h1 : d < 16) : low b = hexd d ↔ hexI (b.toNat : Int) = d := by
  have h := low_hex ⟨b.toNat, b.toNat_lt⟩ ⟨d.toNat, by omega⟩
  simp only [UInt8.ofNat_toNat, Int.toNat_of_nonneg h0] at h
  exact h

theorem unit_P {l : List UInt8} {c : Int} (h0 : bt l 0 = 92) (c0 : 0 ≤ c) (c1 : c ≤ 255) (h : unitP l c) : scanB l = (c, 2) := by
  obtain ⟨h1, h2, h3⟩ := h
  match l, h2 with
  | a :: b :: r, _ =>
    rw [bt0] at h0
    simp only [List.take_succ_cons, List.take_zero] at h3
    unfold scanB
    rw [if_neg (by rw [bt0]; omega), if_neg (by simp; omega)]
    simp only [bt1]
    unfold showB at h1 h3
    split at h3
    · rename_i hc
      simp only [List.cons.injEq, and_true] at h3
      obtain ⟨_, rfl⟩ := h3
      have e : ((UInt8.ofNat c.toNat).toNat : Int) = c := by rw [UInt8.toNat_ofNat']; omega
      rw [e, if_pos hc]
    · split at h3
      · rename_i hc
        simp only [List.cons.injEq, and_true] at h3
        obtain ⟨_, rfl⟩ := h3
        subst hc; rfl
      · split at h3
        · rename_i hc
          simp only [List.cons.injEq, and_true] at h3
          obtain ⟨_, rfl⟩ := h3
          subst hc; rfl
        · split at h3
          · simp at h3
          · simp at h3

theorem unit_Q {l : List UInt8} {c : Int} (h0 : bt l 0 = 92) (c0 : 0 ≤ c) (c1 : c ≤ 255) (h : unitQ l c) : scanB l = (c, 4) := by
  obtain ⟨h1, h2, h3⟩ := h
  match l, h1 with
  | a :: b :: x :: y :: r, _ =>
    rw [bt0] at h0
    rw [bt1] at h3
    simp only [List.take_succ_cons, List.take_zero, List.map_cons, List.map_nil, List.cons.injEq, and_true] at h2
    obtain ⟨_, _, hx, hy⟩ := h2
    have hx := (low_hex' x (by omega) (by omega)).1 hx
    have hy := (low_hex' y (by omega) (by omega)).1 hy
    unfold scanB
    simp only [bt0, bt1, bt2', bt3', h0, h3, hx, hy]
    rw [if_neg (by simp), if_neg (by simp; omega), if_neg (by simp), if_neg (by simp), if_neg (by simp), if_pos trivial, if_neg (by simp; omega), if_neg (by omega), if_neg (by omega)]
    congr 1
    omega

theorem unit_none {l : List UInt8} (h0 : bt l 0 = 92) (h : ∀ c : Int, 0 ≤ c → c < 256 → ¬ unitP l c ∧ ¬ unitQ l c) : scanB l = (0, 0) := by
  have hb1 := bt_bd l 1
  have hb2 := hexI_bd (bt l 2)
  have hb3 := hexI_bd (bt l 3)
  unfold scanB
  rw [if_neg (by omega)]
  split
  · rfl
  rename_i hl
  match l, hl with
  | [], hl => simp at hl
  | [_], hl => simp at hl
  | a :: b :: r, _ =>
    rw [bt0] at h0
    have ha : a = 92 := UInt8.toNat_inj.1 (show a.toNat = 92 by omega)
    subst ha
    simp only [bt1] at *
    have hP : ∀ c : Int, 0 ≤ c → c < 256 → showB c = [92, b] → False := fun c c0 c1 hs => (h c c0 c1).1 ⟨by rw [hs]; rfl, by simp, by rw [hs]; rfl⟩
    have hbb : ∀ n : Nat, (b.toNat : Int) = n → n < 256 → b = UInt8.ofNat n := fun n e hn => UInt8.toNat_inj.1 (by rw [UInt8.toNat_ofNat']; omega)
    split
    · rename_i hq
      exfalso
      refine hP b.toNat (by omega) (by omega) ?_
      unfold showB
      rw [if_pos hq]; simp
    split
    · rename_i hq
      exfalso
      refine hP 10 (by omega) (by omega) ?_
      rw [hbb 110 hq (by omega)]; rfl
    split
    · rename_i hq
      exfalso
      refine hP 9 (by omega) (by omega) ?_
      rw [hbb 116 hq (by omega)]; rfl
    split
    · rename_i hq
      split
      · rfl
      rename_i hl
      match r, hl with
      | [], hl => simp at hl
      | [_], hl => simp at hl
      | x :: y :: r, _ =>
        simp only [bt2', bt3'] at *
        split
        · rfl
        split
        · rfl
        exfalso
        refine (h (hexI x.toNat * 16 + hexI y.toNat) (by omega) (by omega)).2 ⟨by simp, ?_, by rw [bt1]; exact hq⟩
        simp only [List.take_succ_cons, List.take_zero, List.map_cons, List.map_nil]
        rw [(low_hex' x (d := (hexI x.toNat * 16 + hexI y.toNat) / 16) (by omega) (by omega)).2 (by omega), (low_hex' y (d := (hexI x.toNat * 16 + hexI y.toNat) % 16) (by omega) (by omega)).2 (by omega)]
        rw [hbb 120 hq (by omega)]
        rfl
    · rfl
end Go.Proofs.YthfibaajmbhdkaaDoor
