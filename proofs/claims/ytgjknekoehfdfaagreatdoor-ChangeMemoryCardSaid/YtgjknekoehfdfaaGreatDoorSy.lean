/- What may be written over: a row of a call's own. -/
import Derived.Test.YtgjknekoehfdfaaGreatDoorGa
import Derived.Test.YtgjknekoehfdfaaGreatDoorGb
import Derived.Deep.MidRow
namespace Go.Proofs.YtgjknekoehfdfaaGreatDoor
open Go.RowKit
set_option linter.unusedVariables false

theorem mod_setCellsQ {F : Nat → Prop} {b : Nat} (hb : F b) : ∀ (vs : List Value) (o : Nat) (w : World), Mod F w (w.setCells b o vs)
  | [], _, w => Mod.refl _ w
  | v :: r, o, w => by
    rw [World.setCells]
    exact ((Mod.refl F w).setCell (p := ⟨b, o, none⟩) (fun _ => hb) v).trans (mod_setCellsQ hb r (o + 1) _) (fun _ _ h => h)
theorem size_setCells (b o : Nat) (vs : List Value) (w : World) : w.heap.size ≤ (w.setCells b o vs).heap.size := (mod_setCellsQ (F := fun _ => True) trivial vs o w).size
/-- A row that may be written over, its block where F says. -/
def Wrt (F : Nat → Prop) (w : World) (sz : Nat) (a : Option Addr) (n : Nat) : Prop := n = 0 ∨ ∃ g, a = some ⟨g, 0, none⟩ ∧ F g ∧ g < w.heap.size ∧ w.there g 0 (n * sz)
theorem there_ofOwn {w : World} {base : Nat} {e : TypeId} {sz g n cap : Nat} {xs : List Value} (h : w.ownsRow base e sz (.slice (some ⟨g, 0, none⟩) n cap) n xs) (hx : xs.length = n * sz) : w.there g 0 (n * sz) := by
  intro j hj
  have h1 := h.cellAt j (by omega)
  have h2 := h.frozenAt j
  rw [Nat.zero_add]
  refine ⟨?_, h2⟩
  rw [h1, List.getElem?_eq_getElem (by omega)]
  rfl
theorem Wrt.ofOwn {F : Nat → Prop} {w : World} {base : Nat} {e : TypeId} {sz n cap : Nat} {a : Option Addr} {xs : List Value} (h : w.ownsRow base e sz (.slice a n cap) n xs) (hx : xs.length = n * sz) (hF : ∀ g, a = some ⟨g, 0, none⟩ → g < w.heap.size → base ≤ g → F g) : Wrt F w sz a n := by
  rcases Nat.eq_zero_or_pos n with h0 | h0
  · exact .inl h0
  · obtain ⟨g, c, hv, h1, h2⟩ := h.form h0
    injection hv with hv _ _
    subst hv
    exact .inr ⟨g, rfl, hF g rfl h2 h1, h2, there_ofOwn h hx⟩
theorem Wrt.mod {F G : Nat → Prop} {w w' : World} {sz n : Nat} {a : Option Addr} (h : Wrt F w sz a n) (hm : Mod G w w') (hn : ∀ g, F g → ¬ G g) : Wrt F w' sz a n := by
  rcases h with h | ⟨g, rfl, hF, hl, ht⟩
  · exact .inl h
  · refine .inr ⟨g, rfl, hF, Nat.lt_of_lt_of_le hl hm.size, fun j hj => ?_⟩
    have hb := hm.block g hl (hn g hF)
    obtain ⟨h1, h2⟩ := ht j hj
    refine ⟨?_, ?_⟩
    · rw [World.cell?_of_block hb]; exact h1
    · rw [World.frozen?_of_block hb]; exact h2
theorem Wrt.set {F : Nat → Prop} {w : World} {sz n : Nat} {a : Option Addr} (h : Wrt F w sz a n) (b o : Nat) (vs : List Value) : Wrt F (w.setCells b o vs) sz a n := by
  rcases h with h | ⟨g, rfl, hF, hl, ht⟩
  · exact .inl h
  · refine .inr ⟨g, rfl, hF, ?_, World.there_setCells ht b o vs⟩
    exact Nat.lt_of_lt_of_le hl (size_setCells _ _ _ _)
theorem Blk.modQ {G : Nat → Prop} {w w' : World} {g : Nat} {t : TypeId} {cs : Array Value} (h : Blk w g t cs) (hm : Mod G w w') (hn : ¬ G g) : Blk w' g t cs := by
  have h1 := hm.block g h.lt hn
  show w'.heap[g]? = _
  rw [h1]
  exact h
/-- A row that may be written over, at one place. -/
theorem Wrt.at_ {F : Nat → Prop} {w : World} {sz n : Nat} {a : Option Addr} (h : Wrt F w sz a n) (h0 : 0 < n) : ∃ g, a = some ⟨g, 0, none⟩ ∧ F g ∧ g < w.heap.size ∧ ∀ j, j < n * sz → (∃ u, w.cell? ⟨g, j, none⟩ = some u) ∧ w.frozen? ⟨g, j, none⟩ = false := by
  rcases h with h | ⟨g, rfl, hF, hl, ht⟩
  · omega
  · refine ⟨g, rfl, hF, hl, fun j hj => ?_⟩
    obtain ⟨h1, h2⟩ := ht j hj
    rw [Nat.zero_add] at h1 h2
    exact ⟨Option.isSome_iff_exists.1 h1, h2⟩
end Go.Proofs.YtgjknekoehfdfaaGreatDoor
