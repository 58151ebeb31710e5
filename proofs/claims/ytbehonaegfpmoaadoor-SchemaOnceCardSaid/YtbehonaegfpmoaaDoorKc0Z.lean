/- Relations: columns, what Check and Show tell, plainly. -/
import Derived.Test.YtbehonaegfpmoaaDoorGb
import Derived.Test.YtbehonaegfpmoaaDoorLc
import Derived.Lib.Join
namespace Go.Proofs.YtbehonaegfpmoaaDoor
open Go.RowKit
set_option linter.unusedVariables false

/-- A column; a relation. -/
structure Col where
  x : List UInt8
  k : Int
deriving DecidableEq
structure Rln where
  name : List UInt8
  cols : List Col
deriving DecidableEq
def Col.cells (c : Col) : List Value := [.string ⟨c.x.toArray⟩, .int .i64 c.k]
theorem col_len (cs : List Col) : ∀ x ∈ cs.map Col.cells, x.length = 2 := by
  intro x hx
  simp at hx
  obtain ⟨t, _, rfl⟩ := hx
  rfl
theorem col_one (cs : List Col) : ∀ x ∈ cs.map Col.cells, ∀ u ∈ x, u.oneCell' = true := by
  intro x hx u hu
  simp at hx
  obtain ⟨t, _, rfl⟩ := hx
  simp only [Col.cells, List.mem_cons, List.not_mem_nil, or_false] at hu
  rcases hu with rfl | rfl <;> rfl
/-- A slice of columns. -/
def ColsAt (w : World) (v : Value) (cs : List Col) : Prop := RowAt w v 2 (cs.map Col.cells)
def ColsOwn (B : Nat) (w : World) (v : Value) (cs : List Col) : Prop := w.ownsRow B 78 2 v cs.length (cs.flatMap Col.cells)
theorem cols_flat (cs : List Col) : (cs.map Col.cells).flatten = cs.flatMap Col.cells := by
  induction cs with
  | nil => rfl
  | cons a l ih => simp [ih]
theorem ColsOwn.at {B : Nat} {w : World} {v : Value} {cs : List Col} (h : ColsOwn B w v cs) (hl : cs.length ≤ 8796093022208) : ColsAt w v cs := by
  refine RowAt.ofOwn (base := B) (e := 78) (n := cs.length) ?_ (by simp) (col_len cs) (by simpa using hl)
  rw [cols_flat]
  exact h
theorem ColsAt.keep {w w' : World} {v : Value} {cs : List Col} (h : ColsAt w v cs) (hb : Below w.heap.size w w') : ColsAt w' v cs := RowAt.keep h hb
theorem ColsAt.len {w : World} {v : Value} {cs : List Col} (h : ColsAt w v cs) : cs.length ≤ 8796093022208 := by simpa using RowAt.len h
theorem ColsAt.form {w : World} {v : Value} {cs : List Col} (h : ColsAt w v cs) : ∃ (ad : Option Addr) (cap : Nat), v = .slice ad cs.length cap ∧ cs.length ≤ cap ∧ cap ≤ maxLen := by
  obtain ⟨ad, cap, h1, h2, h3⟩ := RowAt.form h
  exact ⟨ad, cap, by simpa using h1, by simpa using h2, h3⟩
theorem ColsAt.get {w : World} {v : Value} {cs : List Col} (h : ColsAt w v cs) {i : Nat} {c : Col} (hi : cs[i]? = some c) : ∃ b off cap : Nat, v = .slice (some ⟨b, off, none⟩) cs.length cap ∧ cs.length ≤ cap ∧ cap ≤ maxLen ∧ b < w.heap.size ∧ w.cell? ⟨b, off + i * 2, none⟩ = some (.string ⟨c.x.toArray⟩) ∧ w.cell? ⟨b, off + i * 2 + 1, none⟩ = some (.int .i64 c.k) := by
  obtain ⟨b, off, cap, h1, h2, h3, h4, h5⟩ := RowAt.get h (i := i) (x := c.cells) (by simp [hi])
  exact ⟨b, off, cap, by simpa using h1, by simpa using h2, h3, h4, by simpa using h5 0 _ rfl, by simpa using h5 1 _ rfl⟩
/-- The first column whose name stood before. -/
def againG (seen : List (List UInt8)) : List Col → Nat → Int
  | [], _ => -1
  | c :: r, i => if c.x ∈ seen then i else againG (seen ++ [c.x]) r (i + 1)
def againI (l : List Col) : Int := againG [] l 0
theorem again_hit {l : List Col} {k : Nat} {c : Col} (h : l[k]? = some c) (hm : c.x ∈ (l.take k).map (·.x)) : againG ((l.take k).map (·.x)) (l.drop k) k = k := by
  rw [List.drop_eq_getElem_cons (List.getElem?_eq_some_iff.1 h).1, (List.getElem?_eq_some_iff.1 h).2]
  unfold againG
  rw [if_pos hm]
theorem again_step {l : List Col} {k : Nat} {c : Col} (h : l[k]? = some c) (hm : c.x ∉ (l.take k).map (·.x)) : againG ((l.take k).map (·.x)) (l.drop k) k = againG ((l.take (k + 1)).map (·.x)) (l.drop (k + 1)) (k + 1) := by
  rw [List.drop_eq_getElem_cons (List.getElem?_eq_some_iff.1 h).1, (List.getElem?_eq_some_iff.1 h).2]
  conv => lhs; unfold againG
  rw [if_neg hm, List.take_add_one, h]
  simp
theorem again_range : ∀ (l : List Col) (seen : List (List UInt8)) (i : Nat), againG seen l i = -1 ∨ ∃ j : Nat, againG seen l i = j ∧ i ≤ j ∧ j < i + l.length
  | [], seen, i => .inl rfl
  | s :: r, seen, i => by
    unfold againG
    split
    · exact .inr ⟨i, rfl, Nat.le_refl _, by simp⟩
    · rcases again_range r (seen ++ [s.x]) (i + 1) with h | ⟨j, h1, h2, h3⟩
      · exact .inl h
      · exact .inr ⟨j, h1, by omega, by simp; omega⟩
/-- What is wrong in a relation. -/
def badK (c : Col) : Bool := decide (c.k ≠ 1 ∧ c.k ≠ 2)
def chkC (nm : List UInt8) (cs : List Col) : Int :=
  if isNameB nm = false then 72 else if (cs.any fun c => !isNameB c.x) = true then 72 else if 5 < cs.length then 81 else if cs.any badK = true then 83 else if 0 ≤ againI cs then 82 else 0
/-- A column's text; the relation's. -/
def kindN (k : Int) : List UInt8 := if k = 2 then [116, 101, 120, 116] else [105, 110, 116]
def colT (c : Col) : List UInt8 := c.x ++ [32] ++ kindN c.k
def showC (nm : List UInt8) (cs : List Col) : List UInt8 := if chkC nm cs = 0 then nm ++ [40] ++ Lib.join (cs.map colT) [44, 32] ++ [41] else []
end Go.Proofs.YtbehonaegfpmoaaDoor
