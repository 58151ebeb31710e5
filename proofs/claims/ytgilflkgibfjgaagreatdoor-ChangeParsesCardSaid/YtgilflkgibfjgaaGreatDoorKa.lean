/- Relations: columns, what Check and Show tell, plainly. What schema.Parse tells, plainly. -/
import Derived.Test.YtgilflkgibfjgaaGreatDoorGb
import Derived.Test.YtgilflkgibfjgaaGreatDoorLc
import Derived.Test.YtgilflkgibfjgaaGreatDoorGa
import Derived.Lib.Join
namespace Go.Proofs.YtgilflkgibfjgaaGreatDoor
open Go.RowKit
set_option linter.unusedVariables false

/-- A column; a relation. -/
structure Col where
  x : List UInt8
  k : Int
deriving DecidableEq
structure Rln where
  name : List UInt8
  cols : List Col
deriving DecidableEq
def Col.cells (c : Col) : List Value := [.string ⟨c.x.toArray⟩, .int .i64 c.k]
theorem col_len (cs : List Col) : ∀ x ∈ cs.map Col.cells, x.length = 2 := by
  intro x hx
  simp at hx
  obtain ⟨t, _, rfl⟩ := hx
  rfl
theorem col_one (cs : List Col) : ∀ x ∈ cs.map Col.cells, ∀ u ∈ x, u.oneCell' = true := by
  intro x hx u hu
  simp at hx
  obtain ⟨t, _, rfl⟩ := hx
  simp only [Col.cells, List.mem_cons, List.not_mem_nil, or_false] at hu
  rcases hu with rfl | rfl <;> rfl
/-- A slice of columns. -/
def ColsAt (w : World) (v : Value) (cs : List Col) : Prop := RowAt w v 2 (cs.map Col.cells)
def ColsOwn (B : Nat) (w : World) (v : Value) (cs : List Col) : Prop := w.ownsRow B 104 2 v cs.length (cs.flatMap Col.cells)
theorem cols_flat (cs : List Col) : (cs.map Col.cells).flatten = cs.flatMap Col.cells := by
  induction cs with
  | nil => rfl
  | cons a l ih => simp [ih]
theorem ColsOwn.at {B : Nat} {w : World} {v : Value} {cs : List Col} (h : ColsOwn B w v cs) (hl : cs.length ≤ 8796093022208) : ColsAt w v cs := by
  refine RowAt.ofOwn (base := B) (e := 104) (n := cs.length) ?_ (by simp) (col_len cs) (by simpa using hl)
  rw [cols_flat]
  exact h
theorem ColsAt.keep {w w' : World} {v : Value} {cs : List Col} (h : ColsAt w v cs) (hb : Below w.heap.size w w') : ColsAt w' v cs := RowAt.keep h hb
theorem ColsAt.len {w : World} {v : Value} {cs : List Col} (h : ColsAt w v cs) : cs.length ≤ 8796093022208 := by simpa using RowAt.len h
theorem ColsAt.form {w : World} {v : Value} {cs : List Col} (h : ColsAt w v cs) : ∃ (ad : Option Addr) (cap : Nat), v = .slice ad cs.length cap ∧ cs.length ≤ cap ∧ cap ≤ maxLen := by
  obtain ⟨ad, cap, h1, h2, h3⟩ := RowAt.form h
  exact ⟨ad, cap, by simpa using h1, by simpa using h2, h3⟩
theorem ColsAt.get {w : World} {v : Value} {cs : List Col} (h : ColsAt w v cs) {i : Nat} {c : Col} (hi : cs[i]? = some c) : ∃ b off cap : Nat, v = .slice (some ⟨b, off, none⟩) cs.length cap ∧ cs.length ≤ cap ∧ cap ≤ maxLen ∧ b < w.heap.size ∧ w.cell? ⟨b, off + i * 2, none⟩ = some (.string ⟨c.x.toArray⟩) ∧ w.cell? ⟨b, off + i * 2 + 1, none⟩ = some (.int .i64 c.k) := by
  obtain ⟨b, off, cap, h1, h2, h3, h4, h5⟩ := RowAt.get h (i := i) (x := c.cells) (by simp [hi])
  exact ⟨b, off, cap, by simpa using h1, by simpa using h2, h3, h4, by simpa using h5 0 _ rfl, by simpa using h5 1 _ rfl⟩
/-- The first column whose name stood before. -/
def againG (seen : List (List UInt8)) : List Col → Nat → Int
  | [], _ => -1
  | c :: r, i => if c.x ∈ seen then i else againG (seen ++ [c.x]) r (i + 1)
def againI (l : List Col) : Int := againG [] l 0
theorem again_hit {l : List Col} {k : Nat} {c : Col} (h : l[k]? = some c) (hm : c.x ∈ (l.take k).map (·.x)) : againG ((l.take k).map (·.x)) (l.drop k) k = k := by
  rw [List.drop_eq_getElem_cons (List.getElem?_eq_some_iff.1 h).1, (List.getElem?_eq_some_iff.1 h).2]
  unfold againG
  rw [if_pos hm]
theorem again_step {l : List Col} {k : Nat} {c : Col} (h : l[k]? = some c) (hm : c.x ∉ (l.take k).map (·.x)) : againG ((l.take k).map (·.x)) (l.drop k) k = againG ((l.take (k + 1)).map (·.x)) (l.drop (k + 1)) (k + 1) := by
  rw [List.drop_eq_getElem_cons (List.getElem?_eq_some_iff.1 h).1, (List.getElem?_eq_some_iff.1 h).2]
  conv => lhs; unfold againG
  rw [if_neg hm, List.take_add_one, h]
  simp
theorem again_range : ∀ (l : List Col) (seen : List (List UInt8)) (i : Nat), againG seen l i = -1 ∨ ∃ j : Nat, againG seen l i = j ∧ i ≤ j ∧ j < i + l.length
  | [], seen, i => .inl rfl
  | s :: r, seen, i => by
    unfold againG
    split
    · exact .inr ⟨i, rfl, Nat.le_refl _, by simp⟩
    · rcases again_range r (seen ++ [s.x]) (i + 1) with h | ⟨j, h1, h2, h3⟩
      · exact .inl h
      · exact .inr ⟨j, h1, by omega, by simp; omega⟩
/-- What is wrong in a relation. -/
def badK (c : Col) : Bool := decide (c.k ≠ 1 ∧ c.k ≠ 2)
def chkC (nm : List UInt8) (cs : List Col) : Int :=
  if isNameB nm = false then 72 else if (cs.any fun c => !isNameB c.x) = true then 72 else if 5 < cs.length then 81 else if cs.any badK = true then 83 else if 0 ≤ againI cs then 82 else 0
/-- A column's text; the relation's. -/
def kindN (k : Int) : List UInt8 := if k = 2 then [116, 101, 120, 116] else [105, 110, 116]
def colT (c : Col) : List UInt8 := c.x ++ [32] ++ kindN c.k
def showC (nm : List UInt8) (cs : List Col) : List UInt8 := if chkC nm cs = 0 then nm ++ [40] ++ Lib.join (cs.map colT) [44, 32] ++ [41] else []
end Go.Proofs.YtgilflkgibfjgaaGreatDoor
namespace Go.Proofs.YtgilflkgibfjgaaGreatDoor
open Go.RowKit
set_option linter.unusedVariables false

abbrev ClP := List UInt8 × Int × Int
def clC (c : ClP) : Col := ⟨c.1, c.2.1⟩
def rlnOf (nm : List UInt8) (l : List ClP) : Rln := ⟨nm, l.map clC⟩
/-- What stands behind the tokens' reading: too many columns, a name twice. -/
def chkS (nm : List UInt8) (l : List ClP) : PR Rln :=
  match l[5]? with
  | some c => .bad c.2.2 81
  | none =>
    match l[(againI (l.map clC)).toNat]?, decide (0 ≤ againI (l.map clC)) with
    | some h, true => .bad h.2.2 82
    | _, _ => .ok (rlnOf nm l) []
def schT (c : List Tok) : PR Rln :=
  match tk 1 [] c with
  | .bad a e => .bad a e
  | .ok t c1 =>
    match listP colP c1 with
    | .bad a e => .bad a e
    | .ok l c2 =>
      match tk 0 [] c2 with
      | .bad a e => .bad a e
      | .ok _ _ => chkS t.x l
theorem chkS_many {nm : List UInt8} {l : List ClP} {c : ClP} (h : l[5]? = some c) : chkS nm l = .bad c.2.2 81 := by
  unfold chkS
  rw [h]
theorem chkS_again {nm : List UInt8} {l : List ClP} {c : ClP} {j : Nat} (h : l[5]? = none) (hj : againI (l.map clC) = j) (hc : l[j]? = some c) : chkS nm l = .bad c.2.2 82 := by
  unfold chkS
  rw [h]
  simp only
  rw [hj]
  have : decide (0 ≤ (j : Int)) = true := by simp
  rw [this, Int.toNat_natCast, hc]
theorem chkS_ok {nm : List UInt8} {l : List ClP} (h : l[5]? = none) (hj : againI (l.map clC) = -1) : chkS nm l = .ok (rlnOf nm l) [] := by
  unfold chkS
  rw [h]
  simp only
  rw [hj]
  have : decide (0 ≤ (-1 : Int)) = false := by decide
  rw [this]
  split
  · rename_i h1 h2
    cases h2
  · rfl
theorem col_bad1 {c : List Tok} {a e : Int} (h : tk 1 [] c = .bad a e) : colP c = .bad a e := by
  unfold colP
  rw [h]
theorem col_bad2 {c c1 : List Tok} {t : Tok} {a e : Int} (h : tk 1 [] c = .ok t c1) (h2 : tk 1 [[105, 110, 116], [116, 101, 120, 116]] c1 = .bad a e) : colP c = .bad a e := by
  unfold colP
  rw [h]
  simp only [h2]
theorem col_ok {c c1 c2 : List Tok} {t u : Tok} (h : tk 1 [] c = .ok t c1) (h2 : tk 1 [[105, 110, 116], [116, 101, 120, 116]] c1 = .ok u c2) : colP c = .ok (t.x, if u.x = [116, 101, 120, 116] then 2 else 1, t.p) c2 := by
  unfold colP
  rw [h]
  simp only [h2]
theorem schT_bad1 {c : List Tok} {a e : Int} (h : tk 1 [] c = .bad a e) : schT c = .bad a e := by
  unfold schT
  rw [h]
theorem schT_bad2 {c c1 : List Tok} {t : Tok} {a e : Int} (h : tk 1 [] c = .ok t c1) (h2 : listP colP c1 = .bad a e) : schT c = .bad a e := by
  unfold schT
  rw [h]
  simp only [h2]
theorem schT_bad3 {c c1 c2 : List Tok} {t : Tok} {l : List ClP} {a e : Int} (h : tk 1 [] c = .ok t c1) (h2 : listP colP c1 = .ok l c2) (h3 : tk 0 [] c2 = .bad a e) : schT c = .bad a e := by
  unfold schT
  rw [h]
  simp only [h2, h3]
theorem schT_ok {c c1 c2 c3 : List Tok} {t u : Tok} {l : List ClP} (h : tk 1 [] c = .ok t c1) (h2 : listP colP c1 = .ok l c2) (h3 : tk 0 [] c2 = .ok u c3) : schT c = chkS t.x l := by
  unfold schT
  rw [h]
  simp only [h2, h3]
theorem schT_small {ts c : List Tok} {q : Rln} (h : schT ts = .ok q c) : q.cols.length ≤ 5 := by
  unfold schT at h
  cases h1 : tk 1 [] ts with
  | bad a e => rw [h1] at h; cases h
  | ok t c1 =>
    rw [h1] at h
    simp only at h
    cases h2 : listP colP c1 with
    | bad a e => rw [h2] at h; cases h
    | ok l c2 =>
      rw [h2] at h
      simp only at h
      cases h3 : tk 0 [] c2 with
      | bad a e => rw [h3] at h; cases h
      | ok u c3 =>
        rw [h3] at h
        simp only [chkS] at h
        cases h5 : l[5]? with
        | some z => rw [h5] at h; cases h
        | none =>
          rw [h5] at h
          simp only at h
          have hl := List.getElem?_eq_none_iff.1 h5
          have hq : rlnOf t.x l = q := by
            generalize l[(againI (l.map clC)).toNat]? = A at h
            generalize decide (0 ≤ againI (l.map clC)) = B at h
            rcases A with _ | x <;> rcases B with _ | _ <;> simp only [PR.ok.injEq, reduceCtorEq] at h <;> exact h.1
          subst hq
          simp only [rlnOf, List.length_map]
          exact hl
end Go.Proofs.YtgilflkgibfjgaaGreatDoor
