/- Is there a k? plainly. -/
import Derived.Test.YtgilflkgibfjgaaDoorGb
namespace Go.Proofs.YtgilflkgibfjgaaDoor
set_option linter.unusedVariables false
/-- What is told of the thing at a place. -/
def atP {α : Type} (l : List α) (f : α → Bool) (k : Nat) : Bool := match l[k]? with
  | some s => f s
  | none => false
theorem atP_some {α : Type} {l : List α} {f : α → Bool} {k : Nat} {x : α} (h : l[k]? = some x) : atP l f k = f x := by
  unfold atP
  rw [h]
theorem range_any {α : Type} (l : List α) (f : α → Bool) {n : Nat} (hn : n = l.length) : (List.range n).any (atP l f) = l.any f := by
  subst hn
  rw [Bool.eq_iff_iff]
  simp only [List.any_eq_true, List.mem_range]
  constructor
  · rintro ⟨k, hk, hp⟩
    rw [atP_some (List.getElem?_eq_getElem hk)] at hp
    exact ⟨_, List.getElem_mem hk, hp⟩
  · rintro ⟨x, hx, hp⟩
    obtain ⟨k, hk, rfl⟩ := List.getElem_of_mem hx
    exact ⟨k, hk, by rw [atP_some (List.getElem?_eq_getElem hk)]; exact hp⟩
theorem take_any_succ {α : Type} (p : α → Bool) {l : List α} {k : Nat} {x : α} (h : l[k]? = some x) : (l.take (k + 1)).any p = ((l.take k).any p || p x) := by
  rw [List.take_add_one, h]
  simp
end Go.Proofs.YtgilflkgibfjgaaDoor
