/- value.Compare, walked. -/
import Derived.Test.YthfibaajmbhdkaaDoorProg
import Derived.Test.YthfibaajmbhdkaaDoorShelf
import Derived.Test.YthfibaajmbhdkaaDoorMod
import Derived.WalkSpells
import Derived.WalkLawsBesides
import Derived.Deep.QuietTactic
import Derived.BigQuiet
import Derived.Lib.Hide
import Derived.StillTailTactics
import Derived.Handy
import Derived.Deep.RegionHeld3
namespace Go.Proofs.YthfibaajmbhdkaaDoor
open Go.RowKit

def cmpI (a b : Int) : Int := if a < b then -1 else if b < a then 1 else 0
def orI (x y z : Int) : Int := if x = 0 then (if y = 0 then z else y) else x

set_option maxHeartbeats 400000 in
theorem cmpKind_any (a b : Int) (w : World) : Calls Tryd.prog 53 #[.int .i64 a, .int .i64 b] w fun e w' => e = .returned (.int .i64 (cmpI a b)) ∧ w = w' := by
  have t0 : (a != a) = false := by simp
  have t1 : (b != b) = false := by simp
  by_cases h : a < b
  · have e : cmpI a b = -1 := by simp [cmpI, h]
    have HE := Lib.hid e
    clear e
    go_enter Tryd.func53, Tryd.ntmps53
    go_wp2
    go_ret
    exact ⟨by rw [HE.out]; rfl, rfl⟩
  · by_cases h2 : b < a
    · have e : cmpI a b = 1 := by simp [cmpI, h, h2]
      have HE := Lib.hid e
      clear e
      go_enter Tryd.func53, Tryd.ntmps53
      go_wp2
      go_ret
      exact ⟨by rw [HE.out]; rfl, rfl⟩
    · have e : cmpI a b = 0 := by simp [cmpI, h, h2]
      have HE := Lib.hid e
      clear e
      go_enter Tryd.func53, Tryd.ntmps53
      go_wp2
      go_ret
      exact ⟨by rw [HE.out]; rfl, rfl⟩

set_option maxHeartbeats 400000 in
theorem cmpInt_any (a b : Int) (w : World) : Calls Tryd.prog 54 #[.int .i64 a, .int .i64 b] w fun e w' => e = .returned (.int .i64 (cmpI a b)) ∧ w = w' := by
  have t0 : (a != a) = false := by simp
  have t1 : (b != b) = false := by simp
  by_cases h : a < b
  · have e : cmpI a b = -1 := by simp [cmpI, h]
    have HE := Lib.hid e
    clear e
    go_enter Tryd.func54, Tryd.ntmps54
    go_wp2
    go_ret
    exact ⟨by rw [HE.out]; rfl, rfl⟩
  · by_cases h2 : b < a
    · have e : cmpI a b = 1 := by simp [cmpI, h, h2]
      have HE := Lib.hid e
      clear e
      go_enter Tryd.func54, Tryd.ntmps54
      go_wp2
      go_ret
      exact ⟨by rw [HE.out]; rfl, rfl⟩
    · have e : cmpI a b = 0 := by simp [cmpI, h, h2]
      have HE := Lib.hid e
      clear e
      go_enter Tryd.func54, Tryd.ntmps54
      go_wp2
      go_ret
      exact ⟨by rw [HE.out]; rfl, rfl⟩

set_option maxHeartbeats 1000000 in
theorem or_any (x y z : Int) (B : Nat) (w : World) (h0 : w.cell? ⟨B, 0, none⟩ = some (.int .i64 x)) (h1 : w.cell? ⟨B, 1, none⟩ = some (.int .i64 y)) (h2 : w.cell? ⟨B, 2, none⟩ = some (.int .i64 z)) :
    Calls Tryd.prog 52 #[.slice (some ⟨B, 0, none⟩) 3 3] w fun e w' => e = .returned (.int .i64 (orI x y z)) ∧ w = w' := by
  by_cases hx : x = 0
  · subst hx
    by_cases hy : y = 0
    · subst hy
      by_cases hz : z = 0
      · subst hz
        go_enter Tryd.func52, Tryd.ntmps52
        go_wp2
        go_rounds 5
        go_ret
        exact ⟨rfl, rfl⟩
      · have hz' : (z != 0) = true := by simpa using hz
        go_enter Tryd.func52, Tryd.ntmps52
        go_wp2
        go_rounds 5
        go_ret
        exact ⟨rfl, rfl⟩
    · have hy' : (y != 0) = true := by simpa using hy
      go_enter Tryd.func52, Tryd.ntmps52
      go_wp2
      go_rounds 5
      go_ret
      exact ⟨by simp [orI, hy], rfl⟩
  · have hx' : (x != 0) = true := by simpa using hx
    go_enter Tryd.func52, Tryd.ntmps52
    go_wp2
    go_rounds 5
    go_ret
    exact ⟨by simp [orI, hx], rfl⟩

/-- A value's order: kinds, numbers, texts. -/
def cmpV (k1 n1 : Int) (t1 : ByteArray) (k2 n2 : Int) (t2 : ByteArray) : Int := orI (cmpI k1 k2) (cmpI n1 n2) (Lib.compareBytes t1.data.toList t2.data.toList)

set_option maxHeartbeats 2000000 in
theorem compare_any (k1 n1 : Int) (t1 : ByteArray) (k2 n2 : Int) (t2 : ByteArray) (w : World) :
    Calls Tryd.prog 33 #[.agg #[.int .i64 k1, .int .i64 n1, .string t1], .agg #[.int .i64 k2, .int .i64 n2, .string t2]] w fun e w' =>
      e = .returned (.int .i64 (cmpV k1 n1 t1 k2 n2 t2)) ∧ Below w.heap.size w w' := by
  go_enter Tryd.func33, Tryd.ntmps33
  go_wp2_with fail
  go_region_held3 (fun w' => w'.cell? ⟨w.heap.size, 0, none⟩ = some (.int .i64 k1) ∧ w'.cell? ⟨w.heap.size, 1, none⟩ = some (.int .i64 n1) ∧ w'.cell? ⟨w.heap.size, 2, none⟩ = some (.string t1) ∧
     w'.cell? ⟨w.heap.size + 1, 0, none⟩ = some (.int .i64 k2) ∧ w'.cell? ⟨w.heap.size + 1, 1, none⟩ = some (.int .i64 n2) ∧ w'.cell? ⟨w.heap.size + 1, 2, none⟩ = some (.string t2)) (go_keep)
    (first | (go_at_call 53; refine (cmpKind_any _ _ _).mono ?_; rintro e w' ⟨rfl, rfl⟩)
           | (go_at_call 54; refine (cmpInt_any _ _ _).mono ?_; rintro e w' ⟨rfl, rfl⟩)
           | (go_at_call 55; refine (Tryd.strings_Compare _ _ _).mono ?_; rintro e w' ⟨rfl, rfl⟩)
           | (go_at_call 52; refine (or_any (cmpI k1 k2) (cmpI n1 n2) (Lib.compareBytes t1.data.toList t2.data.toList) _ _ (by simp [go_sem]) (by simp [go_sem]) (by simp [go_sem])).mono ?_; rintro e w' ⟨rfl, rfl⟩))
  go_wp2
  go_ret
  exact ⟨rfl, by repeat (first | exact Below.refl _ _ | refine bdrewN ?_ _ | refine bdrew ?_ | refine balloc ?_ _)⟩
end Go.Proofs.YthfibaajmbhdkaaDoor
