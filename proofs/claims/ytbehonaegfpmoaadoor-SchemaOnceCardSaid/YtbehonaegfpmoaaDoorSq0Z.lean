/- What schema.Parse tells, plainly. -/
import Derived.Test.YtbehonaegfpmoaaDoorKc0Z
import Derived.Test.YtbehonaegfpmoaaDoorGa
namespace Go.Proofs.YtbehonaegfpmoaaDoor
open Go.RowKit
set_option linter.unusedVariables false

abbrev ClP := List UInt8 × Int × Int
def clC (c : ClP) : Col := ⟨c.1, c.2.1⟩
def rlnOf (nm : List UInt8) (l : List ClP) : Rln := ⟨nm, l.map clC⟩
/-- What stands behind the tokens' reading: too many columns, a name twice. -/
def chkS (nm : List UInt8) (l : List ClP) : PR Rln :=
  match l[5]? with
  | some c => .bad c.2.2 81
  | none =>
    match l[(againI (l.map clC)).toNat]?, decide (0 ≤ againI (l.map clC)) with
    | some h, true => .bad h.2.2 82
    | _, _ => .ok (rlnOf nm l) []
def schT (c : List Tok) : PR Rln :=
  match tk 1 [] c with
  | .bad a e => .bad a e
  | .ok t c1 =>
    match listP colP c1 with
    | .bad a e => .bad a e
    | .ok l c2 =>
      match tk 0 [] c2 with
      | .bad a e => .bad a e
      | .ok _ _ => chkS t.x l
theorem chkS_many {nm : List UInt8} {l : List ClP} {c : ClP} (h : l[5]? = some c) : chkS nm l = .bad c.2.2 81 := by
  unfold chkS
  rw [h]
theorem chkS_again {nm : List UInt8} {l : List ClP} {c : ClP} {j : Nat} (h : l[5]? = none) (hj : againI (l.map clC) = j) (hc : l[j]? = some c) : chkS nm l = .bad c.2.2 82 := by
  unfold chkS
  rw [h]
  simp only
  rw [hj]
  have : decide (0 ≤ (j : Int)) = true := by simp
  rw [this, Int.toNat_natCast, hc]
theorem chkS_ok {nm : List UInt8} {l : List ClP} (h : l[5]? = none) (hj : againI (l.map clC) = -1) : chkS nm l = .ok (rlnOf nm l) [] := by
  unfold chkS
  rw [h]
  simp only
  rw [hj]
  have : decide (0 ≤ (-1 : Int)) = false := by decide
  rw [this]
  split
  · rename_i h1 h2
    cases h2
  · rfl
theorem col_bad1 {c : List Tok} {a e : Int} (h : tk 1 [] c = .bad a e) : colP c = .bad a e := by
  unfold colP
  rw [h]
theorem col_bad2 {c c1 : List Tok} {t : Tok} {a e : Int} (h : tk 1 [] c = .ok t c1) (h2 : tk 1 [[105, 110, 116], [116, 101, 120, 116]] c1 = .bad a e) : colP c = .bad a e := by
  unfold colP
  rw [h]
  simp only [h2]
theorem col_ok {c c1 c2 : List Tok} {t u : Tok} (h : tk 1 [] c = .ok t c1) (h2 : tk 1 [[105, 110, 116], [116, 101, 120, 116]] c1 = .ok u c2) : colP c = .ok (t.x, if u.x = [116, 101, 120, 116] then 2 else 1, t.p) c2 := by
  unfold colP
  rw [h]
  simp only [h2]
theorem schT_bad1 {c : List Tok} {a e : Int} (h : tk 1 [] c = .bad a e) : schT c = .bad a e := by
  unfold schT
  rw [h]
theorem schT_bad2 {c c1 : List Tok} {t : Tok} {a e : Int} (h : tk 1 [] c = .ok t c1) (h2 : listP colP c1 = .bad a e) : schT c = .bad a e := by
  unfold schT
  rw [h]
  simp only [h2]
theorem schT_bad3 {c c1 c2 : List Tok} {t : Tok} {l : List ClP} {a e : Int} (h : tk 1 [] c = .ok t c1) (h2 : listP colP c1 = .ok l c2) (h3 : tk 0 [] c2 = .bad a e) : schT c = .bad a e := by
  unfold schT
  rw [h]
  simp only [h2, h3]
theorem schT_ok {c c1 c2 c3 : List Tok} {t u : Tok} {l : List ClP} (h : tk 1 [] c = .ok t c1) (h2 : listP colP c1 = .ok l c2) (h3 : tk 0 [] c2 = .ok u c3) : schT c = chkS t.x l := by
  unfold schT
  rw [h]
  simp only [h2, h3]
theorem schT_small {ts c : List Tok} {q : Rln} (h : schT ts = .ok q c) : q.cols.length ≤ 5 := by
  unfold schT at h
  cases h1 : tk 1 [] ts with
  | bad a e => rw [h1] at h; cases h
  | ok t c1 =>
    rw [h1] at h
    simp only at h
    cases h2 : listP colP c1 with
    | bad a e => rw [h2] at h; cases h
    | ok l c2 =>
      rw [h2] at h
      simp only at h
      cases h3 : tk 0 [] c2 with
      | bad a e => rw [h3] at h; cases h
      | ok u c3 =>
        rw [h3] at h
        simp only [chkS] at h
        cases h5 : l[5]? with
        | some z => rw [h5] at h; cases h
        | none =>
          rw [h5] at h
          simp only at h
          have hl := List.getElem?_eq_none_iff.1 h5
          have hq : rlnOf t.x l = q := by
            generalize l[(againI (l.map clC)).toNat]? = A at h
            generalize decide (0 ≤ againI (l.map clC)) = B at h
            rcases A with _ | x <;> rcases B with _ | _ <;> simp only [PR.ok.injEq, reduceCtorEq] at h <;> exact h.1
          subst hq
          simp only [rlnOf, List.length_map]
          exact hl
end Go.Proofs.YtbehonaegfpmoaaDoor
