/- ValueOrders, walked; the plain law of the order. -/
import Derived.Test.YthfibaajmbhdkaaCmp
namespace Go.Proofs.Ythfibaajmbhdkaa
open Go.RowKit

theorem bcell {W w1 : World} (hb : Below W.heap.size W w1) : (∀ b o, b < W.heap.size → w1.cell? ⟨b, o, none⟩ = W.cell? ⟨b, o, none⟩) ∧ (∀ b o, b < W.heap.size → w1.frozen? ⟨b, o, none⟩ = W.frozen? ⟨b, o, none⟩) :=
  ⟨fun b o h => hb.cell (p := ⟨b, o, none⟩) h, fun b o h => hb.frozen (p := ⟨b, o, none⟩) h⟩

theorem cmpI_vals (a b : Int) : cmpI a b = -1 ∧ a < b ∨ cmpI a b = 0 ∧ a = b ∨ cmpI a b = 1 ∧ b < a := by
  unfold cmpI; by_cases h : a < b
  · simp [h]
  · by_cases h2 : b < a
    · simp [h, h2]
    · simp [h, h2]; omega

theorem cb_vals : ∀ (a b : List UInt8), Lib.compareBytes a b = -1 ∨ Lib.compareBytes a b = 0 ∨ Lib.compareBytes a b = 1
  | [], [] => by simp [Lib.compareBytes]
  | [], _ :: _ => by simp [Lib.compareBytes]
  | _ :: _, [] => by simp [Lib.compareBytes]
  | x :: a, y :: b => by
    unfold Lib.compareBytes
    split
    · simp
    · split
      · simp
      · exact cb_vals a b

theorem cb_refl : ∀ (a : List UInt8), Lib.compareBytes a a = 0
  | [] => rfl
  | x :: a => by unfold Lib.compareBytes; simp [UInt8.lt_irrefl, cb_refl a]

theorem cb_eq : ∀ (a b : List UInt8), Lib.compareBytes a b = 0 → a = b
  | [], [], _ => rfl
  | [], _ :: _, h => by simp [Lib.compareBytes] at h
  | _ :: _, [], h => by simp [Lib.compareBytes] at h
  | x :: a, y :: b, h => by
    unfold Lib.compareBytes at h
    by_cases h1 : x < y
    · simp [h1] at h
    · by_cases h2 : y < x
      · simp [h1, h2] at h
      · simp [h1, h2] at h
        have e : x = y := by
          have := UInt8.le_antisymm (UInt8.not_lt.1 h2) (UInt8.not_lt.1 h1)
          exact this
        rw [e, cb_eq a b h]

theorem cb_anti : ∀ (a b : List UInt8), Lib.compareBytes b a = -Lib.compareBytes a b
  | [], [] => rfl
  | [], _ :: _ => rfl
  | _ :: _, [] => rfl
  | x :: a, y :: b => by
    unfold Lib.compareBytes
    by_cases h1 : x < y
    · have h2 : ¬ y < x := fun h => UInt8.lt_irrefl x (UInt8.lt_trans h1 h)
      simp [h1, h2]
    · by_cases h2 : y < x
      · simp [h1, h2]
      · simp [h1, h2]; exact cb_anti a b

theorem cb_trans : ∀ (a b c : List UInt8), Lib.compareBytes a b ≤ 0 → Lib.compareBytes b c ≤ 0 → Lib.compareBytes a c ≤ 0
  | [], _, [], _, _ => by simp [Lib.compareBytes]
  | [], _, _ :: _, _, _ => by simp [Lib.compareBytes]
  | _ :: _, [], _, h, _ => by simp [Lib.compareBytes] at h
  | _ :: _, _ :: _, [], _, h => by simp [Lib.compareBytes] at h
  | x :: a, y :: b, z :: c, h, k => by
    unfold Lib.compareBytes at h k ⊢
    by_cases h1 : x < y
    · by_cases k1 : y < z
      · simp [UInt8.lt_trans h1 k1]
      · by_cases k2 : z < y
        · simp [k1, k2] at k
        · have e : y = z := UInt8.le_antisymm (UInt8.not_lt.1 k2) (UInt8.not_lt.1 k1)
          simp [e ▸ h1]
    · by_cases h2 : y < x
      · simp [h1, h2] at h
      · have e : x = y := UInt8.le_antisymm (UInt8.not_lt.1 h2) (UInt8.not_lt.1 h1)
        subst e
        by_cases k1 : x < z
        · simp [k1]
        · by_cases k2 : z < x
          · simp [k1, k2] at k
          · simp [h1] at h
            simp [k1, k2] at k
            simp [k1, k2]
            exact cb_trans a b c h k

theorem cmpV_vals (k1 n1 : Int) (t1 : ByteArray) (k2 n2 : Int) (t2 : ByteArray) : cmpV k1 n1 t1 k2 n2 t2 = -1 ∨ cmpV k1 n1 t1 k2 n2 t2 = 0 ∨ cmpV k1 n1 t1 k2 n2 t2 = 1 := by
  unfold cmpV orI
  rcases cmpI_vals k1 k2 with ⟨e, h⟩ | ⟨e, h⟩ | ⟨e, h⟩ <;> simp only [e]
  · simp
  · rcases cmpI_vals n1 n2 with ⟨e', h'⟩ | ⟨e', h'⟩ | ⟨e', h'⟩ <;> simp only [e']
    · simp
    · simpa using cb_vals _ _
    · simp
  · simp

theorem cmpI_anti (a b : Int) : cmpI b a = - cmpI a b := by
  rcases cmpI_vals a b with ⟨e, h⟩ | ⟨e, h⟩ | ⟨e, h⟩ <;> rcases cmpI_vals b a with ⟨e', h'⟩ | ⟨e', h'⟩ | ⟨e', h'⟩ <;> rw [e, e'] <;> omega

theorem orI_neg (x y z : Int) : orI (-x) (-y) (-z) = -orI x y z := by
  unfold orI; by_cases h : x = 0 <;> by_cases h' : y = 0 <;> simp [h, h']

theorem cmpV_anti (k1 n1 : Int) (t1 : ByteArray) (k2 n2 : Int) (t2 : ByteArray) : cmpV k2 n2 t2 k1 n1 t1 = -cmpV k1 n1 t1 k2 n2 t2 := by
  unfold cmpV
  rw [cmpI_anti k1 k2, cmpI_anti n1 n2, cb_anti t1.data.toList t2.data.toList, orI_neg]

theorem bytes_ext {a b : ByteArray} (h : a.data.toList = b.data.toList) : a = b := by
  cases a; cases b; congr; exact Array.toList_inj.1 h

theorem cmpV_eq {k1 n1 : Int} {t1 : ByteArray} {k2 n2 : Int} {t2 : ByteArray} (h : cmpV k1 n1 t1 k2 n2 t2 = 0) : k1 = k2 ∧ n1 = n2 ∧ t1 = t2 := by
  unfold cmpV orI at h
  rcases cmpI_vals k1 k2 with ⟨e, h1⟩ | ⟨e, h1⟩ | ⟨e, h1⟩ <;> simp only [e] at h
  · simp at h
  · rcases cmpI_vals n1 n2 with ⟨e', h2⟩ | ⟨e', h2⟩ | ⟨e', h2⟩ <;> simp only [e'] at h
    · simp at h
    · exact ⟨h1, h2, bytes_ext (cb_eq _ _ (by simpa using h))⟩
    · simp at h
  · simp at h

theorem cmpI_refl (a : Int) : cmpI a a = 0 := by simp [cmpI]
theorem cmpV_refl (k n : Int) (t : ByteArray) : cmpV k n t k n t = 0 := by simp [cmpV, cmpI_refl, cb_refl, orI]

theorem cmpV_le {k1 n1 : Int} {t1 : ByteArray} {k2 n2 : Int} {t2 : ByteArray} : cmpV k1 n1 t1 k2 n2 t2 ≤ 0 ↔ (k1 < k2 ∨ k1 = k2 ∧ (n1 < n2 ∨ n1 = n2 ∧ Lib.compareBytes t1.data.toList t2.data.toList ≤ 0)) := by
  unfold cmpV orI
  rcases cmpI_vals k1 k2 with ⟨e, h⟩ | ⟨e, h⟩ | ⟨e, h⟩ <;> simp only [e]
  · simp; left; exact h
  · rcases cmpI_vals n1 n2 with ⟨e', h'⟩ | ⟨e', h'⟩ | ⟨e', h'⟩ <;> simp only [e']
    · simp; omega
    · simp [h, h']
    · simp; omega
  · simp; omega

theorem cmpV_trans {k1 n1 : Int} {t1 : ByteArray} {k2 n2 : Int} {t2 : ByteArray} {k3 n3 : Int} {t3 : ByteArray} (h : cmpV k1 n1 t1 k2 n2 t2 ≤ 0) (k : cmpV k2 n2 t2 k3 n3 t3 ≤ 0) : cmpV k1 n1 t1 k3 n3 t3 ≤ 0 := by
  rw [cmpV_le] at h k ⊢
  rcases h with h | ⟨h, h'⟩ <;> rcases k with k | ⟨k, k'⟩
  · omega
  · omega
  · omega
  · right
    refine ⟨by omega, ?_⟩
    rcases h' with h' | ⟨h1, h2⟩ <;> rcases k' with k' | ⟨k1', k2'⟩
    · omega
    · omega
    · omega
    · right; exact ⟨by omega, cb_trans _ _ _ h2 k2'⟩

theorem cmpV_int {n1 n2 : Int} {t : ByteArray} (k : Int) : cmpV k n1 t k n2 t = cmpI n1 n2 := by
  unfold cmpV orI
  rw [cmpI_refl, cb_refl]
  by_cases h : cmpI n1 n2 = 0 <;> simp [h]
end Go.Proofs.Ythfibaajmbhdkaa
