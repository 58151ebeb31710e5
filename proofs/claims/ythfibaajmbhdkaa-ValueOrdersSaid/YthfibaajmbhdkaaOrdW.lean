/- ValueOrders, walked. -/
import Derived.Test.YthfibaajmbhdkaaOrd
namespace Go.Proofs.Ythfibaajmbhdkaa
open Go.RowKit

set_option maxHeartbeats 4000000 in
theorem orders_lt_le (k1 n1 : Int) (t1 : ByteArray) (k2 n2 : Int) (t2 : ByteArray) (k3 n3 : Int) (t3 : ByteArray) (w : World)
    (hab : cmpV k1 n1 t1 k2 n2 t2 = -1) (hba : cmpV k2 n2 t2 k1 n1 t1 = 1) (hbc : cmpV k2 n2 t2 k3 n3 t3 ≤ 0) (hac : cmpV k1 n1 t1 k3 n3 t3 ≤ 0)
    (HN : Hid ((-1 : Int) = 0 ↔ (k1 = k2 ∧ n1 = n2 ∧ t1.toList = t2.toList))) (HI : Hid (k1 = 1 → k2 = 1 → t1.toList = t2.toList → ((-1 : Int) < 0 ↔ n1 < n2))) :
    Calls Try.prog 3 #[.agg #[.int .i64 k1, .int .i64 n1, .string t1], .agg #[.int .i64 k2, .int .i64 n2, .string t2], .agg #[.int .i64 k3, .int .i64 n3, .string t3]] w fun e w' =>
      e = .returned (.bool true) ∧ Below w.heap.size w w' := by
  have h7 : cmpV 1 7 ⟨#[]⟩ 2 0 ⟨#[]⟩ = -1 := by decide
  go_enter Try.func3, Try.ntmps3
  go_wp2_with fail
  refine (compare_any _ _ _ _ _ _ _).mono ?_
  rintro e w1 ⟨rfl, hb1⟩
  have a0 := hb1.cell (p := ⟨w.heap.size, 0, none⟩) (by simp; omega)
  have a1 := hb1.cell (p := ⟨w.heap.size, 1, none⟩) (by simp; omega)
  have a2 := hb1.cell (p := ⟨w.heap.size, 2, none⟩) (by simp; omega)
  have b0 := hb1.cell (p := ⟨w.heap.size + 1, 0, none⟩) (by simp)
  have b1 := hb1.cell (p := ⟨w.heap.size + 1, 1, none⟩) (by simp)
  have b2 := hb1.cell (p := ⟨w.heap.size + 1, 2, none⟩) (by simp)
  have c0 := hb1.cell (p := ⟨w.heap.size + 1 + 1, 0, none⟩) (by simp)
  have c1 := hb1.cell (p := ⟨w.heap.size + 1 + 1, 1, none⟩) (by simp)
  have c2 := hb1.cell (p := ⟨w.heap.size + 1 + 1, 2, none⟩) (by simp)
  simp [go_sem] at a0 a1 a2 b0 b1 b2 c0 c1 c2
  have hs1 := hb1.size
  simp at hs1
  have hB : Below w.heap.size w w1 := (balloc (balloc (balloc (Below.refl _ _) _) _) _).trans (hb1.mono (by simp; omega))
  clear hb1
  go_wp2_with fail
  go_region_held3 (fun w' => (w'.cell? ⟨w.heap.size, 0, none⟩ = some (.int .i64 k1) ∧ w'.cell? ⟨w.heap.size, 1, none⟩ = some (.int .i64 n1) ∧ w'.cell? ⟨w.heap.size, 2, none⟩ = some (.string t1)) ∧
     (w'.cell? ⟨w.heap.size + 1, 0, none⟩ = some (.int .i64 k2) ∧ w'.cell? ⟨w.heap.size + 1, 1, none⟩ = some (.int .i64 n2) ∧ w'.cell? ⟨w.heap.size + 1, 2, none⟩ = some (.string t2)) ∧
     (w'.cell? ⟨w.heap.size + 1 + 1, 0, none⟩ = some (.int .i64 k3) ∧ w'.cell? ⟨w.heap.size + 1 + 1, 1, none⟩ = some (.int .i64 n3) ∧ w'.cell? ⟨w.heap.size + 1 + 1, 2, none⟩ = some (.string t3)) ∧ Below w.heap.size w w' ∧ w1.heap.size ≤ w'.heap.size)
    (first
      | (go_split_ands; refine ⟨⟨?_, ?_, ?_⟩, ⟨?_, ?_, ?_⟩, ⟨?_, ?_, ?_⟩, ?_, ?_⟩ <;> first
          | go_keep
          | exact bdrew (by assumption)
          | (refine Below.trans ?_ (hb.mono ?_) <;> first | assumption | omega)
          | (have := hb.size; omega)
          | (refine (hb.cell ?_).trans ?_ <;> first | assumption | (simp; omega))))
    (first | (go_at_call 4; refine (compare_any _ _ _ _ _ _ _).mono ?_; rintro e w' ⟨rfl, hb⟩))
  go_split_ands
  go_wp2_with fail
  refine (compare_any _ _ _ _ _ _ _).mono ?_
  rintro e w2 ⟨rfl, hb2⟩
  have a0' := (hb2.cell (p := ⟨w.heap.size, 0, none⟩) (by simp; omega)).trans (by assumption)
  have a1' := (hb2.cell (p := ⟨w.heap.size, 1, none⟩) (by simp; omega)).trans (by assumption)
  have a2' := (hb2.cell (p := ⟨w.heap.size, 2, none⟩) (by simp; omega)).trans (by assumption)
  have b0' := (hb2.cell (p := ⟨w.heap.size + 1, 0, none⟩) (by simp; omega)).trans (by assumption)
  have b1' := (hb2.cell (p := ⟨w.heap.size + 1, 1, none⟩) (by simp; omega)).trans (by assumption)
  have b2' := (hb2.cell (p := ⟨w.heap.size + 1, 2, none⟩) (by simp; omega)).trans (by assumption)
  have hB2 : Below w.heap.size w w2 := Below.trans (by assumption) (hb2.mono (by omega))
  go_wp2_with fail
  all_goals first
    | (exfalso; have hn := HN.out; simp at hn; exact hn ‹_› ‹_› ‹_›)
    | (exfalso; have hi := HI.out; simp_all; done)
    | (exfalso; have hi := HI.out; simp_all; omega)
    | (go_ret; exact ⟨rfl, hB2⟩)
    | (go_ret; refine ⟨congrArg (fun b => Ending.returned (.bool b)) (decide_eq_true (p := cmpV _ _ _ _ _ _ ≤ 0) ?_), hB2⟩; simp_all; done)

set_option maxHeartbeats 4000000 in
theorem orders_lt_gt (k1 n1 : Int) (t1 : ByteArray) (k2 n2 : Int) (t2 : ByteArray) (k3 n3 : Int) (t3 : ByteArray) (w : World)
    (hab : cmpV k1 n1 t1 k2 n2 t2 = -1) (hba : cmpV k2 n2 t2 k1 n1 t1 = 1) (hbc : 0 < cmpV k2 n2 t2 k3 n3 t3)
    (HN : Hid ((-1 : Int) = 0 ↔ (k1 = k2 ∧ n1 = n2 ∧ t1.toList = t2.toList))) (HI : Hid (k1 = 1 → k2 = 1 → t1.toList = t2.toList → ((-1 : Int) < 0 ↔ n1 < n2))) :
    Calls Try.prog 3 #[.agg #[.int .i64 k1, .int .i64 n1, .string t1], .agg #[.int .i64 k2, .int .i64 n2, .string t2], .agg #[.int .i64 k3, .int .i64 n3, .string t3]] w fun e w' =>
      e = .returned (.bool true) ∧ Below w.heap.size w w' := by
  have h7 : cmpV 1 7 ⟨#[]⟩ 2 0 ⟨#[]⟩ = -1 := by decide
  go_enter Try.func3, Try.ntmps3
  go_wp2_with fail
  refine (compare_any _ _ _ _ _ _ _).mono ?_
  rintro e w1 ⟨rfl, hb1⟩
  have a0 := hb1.cell (p := ⟨w.heap.size, 0, none⟩) (by simp; omega)
  have a1 := hb1.cell (p := ⟨w.heap.size, 1, none⟩) (by simp; omega)
  have a2 := hb1.cell (p := ⟨w.heap.size, 2, none⟩) (by simp; omega)
  have b0 := hb1.cell (p := ⟨w.heap.size + 1, 0, none⟩) (by simp)
  have b1 := hb1.cell (p := ⟨w.heap.size + 1, 1, none⟩) (by simp)
  have b2 := hb1.cell (p := ⟨w.heap.size + 1, 2, none⟩) (by simp)
  have c0 := hb1.cell (p := ⟨w.heap.size + 1 + 1, 0, none⟩) (by simp)
  have c1 := hb1.cell (p := ⟨w.heap.size + 1 + 1, 1, none⟩) (by simp)
  have c2 := hb1.cell (p := ⟨w.heap.size + 1 + 1, 2, none⟩) (by simp)
  simp [go_sem] at a0 a1 a2 b0 b1 b2 c0 c1 c2
  have hs1 := hb1.size
  simp at hs1
  have hB : Below w.heap.size w w1 := (balloc (balloc (balloc (Below.refl _ _) _) _) _).trans (hb1.mono (by simp; omega))
  clear hb1
  go_wp2_with fail
  go_region_held3 (fun w' => (w'.cell? ⟨w.heap.size, 0, none⟩ = some (.int .i64 k1) ∧ w'.cell? ⟨w.heap.size, 1, none⟩ = some (.int .i64 n1) ∧ w'.cell? ⟨w.heap.size, 2, none⟩ = some (.string t1)) ∧
     (w'.cell? ⟨w.heap.size + 1, 0, none⟩ = some (.int .i64 k2) ∧ w'.cell? ⟨w.heap.size + 1, 1, none⟩ = some (.int .i64 n2) ∧ w'.cell? ⟨w.heap.size + 1, 2, none⟩ = some (.string t2)) ∧
     (w'.cell? ⟨w.heap.size + 1 + 1, 0, none⟩ = some (.int .i64 k3) ∧ w'.cell? ⟨w.heap.size + 1 + 1, 1, none⟩ = some (.int .i64 n3) ∧ w'.cell? ⟨w.heap.size + 1 + 1, 2, none⟩ = some (.string t3)) ∧ Below w.heap.size w w' ∧ w1.heap.size ≤ w'.heap.size)
    (first
      | (go_split_ands; refine ⟨⟨?_, ?_, ?_⟩, ⟨?_, ?_, ?_⟩, ⟨?_, ?_, ?_⟩, ?_, ?_⟩ <;> first
          | go_keep
          | exact bdrew (by assumption)
          | (refine Below.trans ?_ (hb.mono ?_) <;> first | assumption | omega)
          | (have := hb.size; omega)
          | (refine (hb.cell ?_).trans ?_ <;> first | assumption | (simp; omega))))
    (first | (go_at_call 4; refine (compare_any _ _ _ _ _ _ _).mono ?_; rintro e w' ⟨rfl, hb⟩))
  go_split_ands
  go_wp2_with fail
  refine (compare_any _ _ _ _ _ _ _).mono ?_
  rintro e w2 ⟨rfl, hb2⟩
  have a0' := (hb2.cell (p := ⟨w.heap.size, 0, none⟩) (by simp; omega)).trans (by assumption)
  have a1' := (hb2.cell (p := ⟨w.heap.size, 1, none⟩) (by simp; omega)).trans (by assumption)
  have a2' := (hb2.cell (p := ⟨w.heap.size, 2, none⟩) (by simp; omega)).trans (by assumption)
  have b0' := (hb2.cell (p := ⟨w.heap.size + 1, 0, none⟩) (by simp; omega)).trans (by assumption)
  have b1' := (hb2.cell (p := ⟨w.heap.size + 1, 1, none⟩) (by simp; omega)).trans (by assumption)
  have b2' := (hb2.cell (p := ⟨w.heap.size + 1, 2, none⟩) (by simp; omega)).trans (by assumption)
  have hB2 : Below w.heap.size w w2 := Below.trans (by assumption) (hb2.mono (by omega))
  go_wp2_with fail
  all_goals first
    | (exfalso; have hn := HN.out; simp at hn; exact hn ‹_› ‹_› ‹_›)
    | (exfalso; have hi := HI.out; simp_all; done)
    | (exfalso; have hi := HI.out; simp_all; omega)
    | (go_ret; exact ⟨rfl, hB2⟩)
    | (go_ret; refine ⟨congrArg (fun b => Ending.returned (.bool b)) (decide_eq_true (p := cmpV _ _ _ _ _ _ ≤ 0) ?_), hB2⟩; simp_all; done)

set_option maxHeartbeats 4000000 in
theorem orders_gt (k1 n1 : Int) (t1 : ByteArray) (k2 n2 : Int) (t2 : ByteArray) (k3 n3 : Int) (t3 : ByteArray) (w : World)
    (hab : cmpV k1 n1 t1 k2 n2 t2 = 1) (hba : cmpV k2 n2 t2 k1 n1 t1 = -1)
    (HN : Hid ((1 : Int) = 0 ↔ (k1 = k2 ∧ n1 = n2 ∧ t1.toList = t2.toList))) (HI : Hid (k1 = 1 → k2 = 1 → t1.toList = t2.toList → ((1 : Int) < 0 ↔ n1 < n2))) :
    Calls Try.prog 3 #[.agg #[.int .i64 k1, .int .i64 n1, .string t1], .agg #[.int .i64 k2, .int .i64 n2, .string t2], .agg #[.int .i64 k3, .int .i64 n3, .string t3]] w fun e w' =>
      e = .returned (.bool true) ∧ Below w.heap.size w w' := by
  have h7 : cmpV 1 7 ⟨#[]⟩ 2 0 ⟨#[]⟩ = -1 := by decide
  go_enter Try.func3, Try.ntmps3
  go_wp2_with fail
  refine (compare_any _ _ _ _ _ _ _).mono ?_
  rintro e w1 ⟨rfl, hb1⟩
  have a0 := hb1.cell (p := ⟨w.heap.size, 0, none⟩) (by simp; omega)
  have a1 := hb1.cell (p := ⟨w.heap.size, 1, none⟩) (by simp; omega)
  have a2 := hb1.cell (p := ⟨w.heap.size, 2, none⟩) (by simp; omega)
  have b0 := hb1.cell (p := ⟨w.heap.size + 1, 0, none⟩) (by simp)
  have b1 := hb1.cell (p := ⟨w.heap.size + 1, 1, none⟩) (by simp)
  have b2 := hb1.cell (p := ⟨w.heap.size + 1, 2, none⟩) (by simp)
  have c0 := hb1.cell (p := ⟨w.heap.size + 1 + 1, 0, none⟩) (by simp)
  have c1 := hb1.cell (p := ⟨w.heap.size + 1 + 1, 1, none⟩) (by simp)
  have c2 := hb1.cell (p := ⟨w.heap.size + 1 + 1, 2, none⟩) (by simp)
  simp [go_sem] at a0 a1 a2 b0 b1 b2 c0 c1 c2
  have hs1 := hb1.size
  simp at hs1
  have hB : Below w.heap.size w w1 := (balloc (balloc (balloc (Below.refl _ _) _) _) _).trans (hb1.mono (by simp; omega))
  clear hb1
  go_wp2_with fail
  go_region_held3 (fun w' => (w'.cell? ⟨w.heap.size, 0, none⟩ = some (.int .i64 k1) ∧ w'.cell? ⟨w.heap.size, 1, none⟩ = some (.int .i64 n1) ∧ w'.cell? ⟨w.heap.size, 2, none⟩ = some (.string t1)) ∧
     (w'.cell? ⟨w.heap.size + 1, 0, none⟩ = some (.int .i64 k2) ∧ w'.cell? ⟨w.heap.size + 1, 1, none⟩ = some (.int .i64 n2) ∧ w'.cell? ⟨w.heap.size + 1, 2, none⟩ = some (.string t2)) ∧
     (w'.cell? ⟨w.heap.size + 1 + 1, 0, none⟩ = some (.int .i64 k3) ∧ w'.cell? ⟨w.heap.size + 1 + 1, 1, none⟩ = some (.int .i64 n3) ∧ w'.cell? ⟨w.heap.size + 1 + 1, 2, none⟩ = some (.string t3)) ∧ Below w.heap.size w w' ∧ w1.heap.size ≤ w'.heap.size)
    (first
      | (go_split_ands; refine ⟨⟨?_, ?_, ?_⟩, ⟨?_, ?_, ?_⟩, ⟨?_, ?_, ?_⟩, ?_, ?_⟩ <;> first
          | go_keep
          | exact bdrew (by assumption)
          | (refine Below.trans ?_ (hb.mono ?_) <;> first | assumption | omega)
          | (have := hb.size; omega)
          | (refine (hb.cell ?_).trans ?_ <;> first | assumption | (simp; omega))))
    (first | (go_at_call 4; refine (compare_any _ _ _ _ _ _ _).mono ?_; rintro e w' ⟨rfl, hb⟩))
  go_split_ands
  go_wp2_with fail
  refine (compare_any _ _ _ _ _ _ _).mono ?_
  rintro e w2 ⟨rfl, hb2⟩
  have a0' := (hb2.cell (p := ⟨w.heap.size, 0, none⟩) (by simp; omega)).trans (by assumption)
  have a1' := (hb2.cell (p := ⟨w.heap.size, 1, none⟩) (by simp; omega)).trans (by assumption)
  have a2' := (hb2.cell (p := ⟨w.heap.size, 2, none⟩) (by simp; omega)).trans (by assumption)
  have b0' := (hb2.cell (p := ⟨w.heap.size + 1, 0, none⟩) (by simp; omega)).trans (by assumption)
  have b1' := (hb2.cell (p := ⟨w.heap.size + 1, 1, none⟩) (by simp; omega)).trans (by assumption)
  have b2' := (hb2.cell (p := ⟨w.heap.size + 1, 2, none⟩) (by simp; omega)).trans (by assumption)
  have hB2 : Below w.heap.size w w2 := Below.trans (by assumption) (hb2.mono (by omega))
  go_wp2_with fail
  all_goals first
    | (exfalso; have hn := HN.out; simp at hn; exact hn ‹_› ‹_› ‹_›)
    | (exfalso; have hi := HI.out; simp_all; done)
    | (exfalso; have hi := HI.out; simp_all; omega)
    | (go_ret; exact ⟨rfl, hB2⟩)
    | (go_ret; refine ⟨congrArg (fun b => Ending.returned (.bool b)) (decide_eq_true (p := cmpV _ _ _ _ _ _ ≤ 0) ?_), hB2⟩; simp_all; done)


set_option maxHeartbeats 4000000 in
theorem orders_eq (k1 n1 : Int) (t1 : ByteArray) (k3 n3 : Int) (t3 : ByteArray) (w : World) (hab : cmpV k1 n1 t1 k1 n1 t1 = 0) :
    Calls Try.prog 3 #[.agg #[.int .i64 k1, .int .i64 n1, .string t1], .agg #[.int .i64 k1, .int .i64 n1, .string t1], .agg #[.int .i64 k3, .int .i64 n3, .string t3]] w fun e w' =>
      e = .returned (.bool true) ∧ Below w.heap.size w w' := by
  have h7 : cmpV 1 7 ⟨#[]⟩ 2 0 ⟨#[]⟩ = -1 := by decide
  go_enter Try.func3, Try.ntmps3
  go_wp2_with fail
  refine (compare_any _ _ _ _ _ _ _).mono ?_
  rintro e w1 ⟨rfl, hb1⟩
  have a0 := hb1.cell (p := ⟨w.heap.size, 0, none⟩) (by simp; omega)
  have a1 := hb1.cell (p := ⟨w.heap.size, 1, none⟩) (by simp; omega)
  have a2 := hb1.cell (p := ⟨w.heap.size, 2, none⟩) (by simp; omega)
  have b0 := hb1.cell (p := ⟨w.heap.size + 1, 0, none⟩) (by simp)
  have b1 := hb1.cell (p := ⟨w.heap.size + 1, 1, none⟩) (by simp)
  have b2 := hb1.cell (p := ⟨w.heap.size + 1, 2, none⟩) (by simp)
  have c0 := hb1.cell (p := ⟨w.heap.size + 1 + 1, 0, none⟩) (by simp)
  have c1 := hb1.cell (p := ⟨w.heap.size + 1 + 1, 1, none⟩) (by simp)
  have c2 := hb1.cell (p := ⟨w.heap.size + 1 + 1, 2, none⟩) (by simp)
  simp [go_sem] at a0 a1 a2 b0 b1 b2 c0 c1 c2
  have hs1 := hb1.size
  simp at hs1
  have hB : Below w.heap.size w w1 := (balloc (balloc (balloc (Below.refl _ _) _) _) _).trans (hb1.mono (by simp; omega))
  clear hb1
  go_wp2_with fail
  go_region_held3 (fun w' => (w'.cell? ⟨w.heap.size, 0, none⟩ = some (.int .i64 k1) ∧ w'.cell? ⟨w.heap.size, 1, none⟩ = some (.int .i64 n1) ∧ w'.cell? ⟨w.heap.size, 2, none⟩ = some (.string t1)) ∧
     (w'.cell? ⟨w.heap.size + 1, 0, none⟩ = some (.int .i64 k1) ∧ w'.cell? ⟨w.heap.size + 1, 1, none⟩ = some (.int .i64 n1) ∧ w'.cell? ⟨w.heap.size + 1, 2, none⟩ = some (.string t1)) ∧
     (w'.cell? ⟨w.heap.size + 1 + 1, 0, none⟩ = some (.int .i64 k3) ∧ w'.cell? ⟨w.heap.size + 1 + 1, 1, none⟩ = some (.int .i64 n3) ∧ w'.cell? ⟨w.heap.size + 1 + 1, 2, none⟩ = some (.string t3)) ∧ Below w.heap.size w w' ∧ w1.heap.size ≤ w'.heap.size)
    (first
      | (go_split_ands; refine ⟨⟨?_, ?_, ?_⟩, ⟨?_, ?_, ?_⟩, ⟨?_, ?_, ?_⟩, ?_, ?_⟩ <;> first
          | go_keep
          | exact bdrew (by assumption)
          | (refine Below.trans ?_ (hb.mono ?_) <;> first | assumption | omega)
          | (have := hb.size; omega)
          | (refine (hb.cell ?_).trans ?_ <;> first | assumption | (simp; omega))))
    (first | (go_at_call 4; refine (compare_any _ _ _ _ _ _ _).mono ?_; rintro e w' ⟨rfl, hb⟩))
  go_split_ands
  go_wp2_with fail
  refine (compare_any _ _ _ _ _ _ _).mono ?_
  rintro e w2 ⟨rfl, hb2⟩
  have a0' := (hb2.cell (p := ⟨w.heap.size, 0, none⟩) (by simp; omega)).trans (by assumption)
  have a1' := (hb2.cell (p := ⟨w.heap.size, 1, none⟩) (by simp; omega)).trans (by assumption)
  have a2' := (hb2.cell (p := ⟨w.heap.size, 2, none⟩) (by simp; omega)).trans (by assumption)
  have b0' := (hb2.cell (p := ⟨w.heap.size + 1, 0, none⟩) (by simp; omega)).trans (by assumption)
  have b1' := (hb2.cell (p := ⟨w.heap.size + 1, 1, none⟩) (by simp; omega)).trans (by assumption)
  have b2' := (hb2.cell (p := ⟨w.heap.size + 1, 2, none⟩) (by simp; omega)).trans (by assumption)
  have hB2 : Below w.heap.size w w2 := Below.trans (by assumption) (hb2.mono (by omega))
  by_cases hac : cmpV k1 n1 t1 k3 n3 t3 ≤ 0
  all_goals
    go_wp2_with fail
  all_goals (go_ret; exact ⟨rfl, hB2⟩)
end Go.Proofs.Ythfibaajmbhdkaa
