/- Does a row fit a relation? plainly. -/
import Derived.Test.YtgilflkgibfjgaaDoorCh0Z
import Derived.Test.YtgilflkgibfjgaaDoorRl8Z
namespace Go.Proofs.YtgilflkgibfjgaaDoor
open Go.RowKit
set_option linter.unusedVariables false

def okF (u : Vl) (c : Col) : Bool := validB u.k u.n u.t && decide (u.k = c.k)
def fitG (p : Vl × Col) : Bool := okF p.1 p.2
/-- Does the row fit these columns? -/
def fitsB (row : List Vl) (cols : List Col) : Bool := decide (row.length = cols.length) && (row.zip cols).all fitG
theorem zip_get {row : List Vl} {cols : List Col} {k : Nat} {u : Vl} {c : Col} (h1 : row[k]? = some u) (h2 : cols[k]? = some c) : (row.zip cols)[k]? = some (u, c) := by
  rw [List.getElem?_zip_eq_some]
  exact ⟨h1, h2⟩
theorem take_all_succ {α : Type} (p : α → Bool) {l : List α} {k : Nat} {x : α} (h : l[k]? = some x) : (l.take (k + 1)).all p = ((l.take k).all p && p x) := by
  rw [List.take_add_one, h]
  simp
theorem fits_no {row : List Vl} {cols : List Col} {k : Nat} {u : Vl} {c : Col} (h1 : row[k]? = some u) (h2 : cols[k]? = some c) (h : okF u c = false) : fitsB row cols = false := by
  unfold fitsB
  have : (row.zip cols).all fitG = false := by
    rw [List.all_eq_false]
    exact ⟨(u, c), List.mem_of_getElem? (zip_get h1 h2), by simp only [fitG]; rw [h]; decide⟩
  rw [this, Bool.and_false]
theorem fits_len {row : List Vl} {cols : List Col} (h : row.length ≠ cols.length) : fitsB row cols = false := by
  unfold fitsB
  rw [decide_eq_false h]
  rfl
theorem fits_yes {row : List Vl} {cols : List Col} (h : row.length = cols.length) (ha : ∀ (k : Nat) (u : Vl) (c : Col), row[k]? = some u → cols[k]? = some c → okF u c = true) : fitsB row cols = true := by
  unfold fitsB
  rw [decide_eq_true h, Bool.true_and, List.all_eq_true]
  intro p hp
  obtain ⟨k, hk⟩ := List.getElem?_of_mem hp
  obtain ⟨u, c⟩ := p
  rw [List.getElem?_zip_eq_some] at hk
  exact ha k u c hk.1 hk.2

/-- Where the first relation of this name stands. -/
def plI (d : List Rln) (x : List UInt8) : Int := idxI (d.map (·.name)) x
def fitD (d : List Rln) (x : List UInt8) (row : List Vl) : Int := match d[(plI d x).toNat]?, decide (0 ≤ plI d x) with
  | some r, true => if fitsB row r.cols = true then 0 else 87
  | _, _ => 86
theorem fitD_none {d : List Rln} {x : List UInt8} {row : List Vl} (h : plI d x = -1) : fitD d x row = 86 := by
  unfold fitD
  rw [h]
  have : decide (0 ≤ (-1 : Int)) = false := by decide
  rw [this]
  split
  · rename_i h1 h2
    cases h2
  · rfl
theorem fitD_some {d : List Rln} {x : List UInt8} {row : List Vl} {k : Nat} {r : Rln} (h : plI d x = k) (hr : d[k]? = some r) : fitD d x row = if fitsB row r.cols = true then 0 else 87 := by
  unfold fitD
  rw [h]
  have : decide (0 ≤ (k : Int)) = true := by simp
  rw [this, Int.toNat_natCast, hr]
theorem plI_range (d : List Rln) (x : List UInt8) : plI d x = -1 ∨ ∃ (k : Nat) (r : Rln), plI d x = k ∧ d[k]? = some r ∧ r.name = x := by
  unfold plI
  by_cases h : x ∈ d.map (·.name)
  · right
    have hl := List.idxOf_lt_length_of_mem h
    have hg := List.getElem_idxOf hl
    have hl2 := hl
    rw [List.length_map] at hl2
    refine ⟨(d.map (·.name)).idxOf x, d[(d.map (·.name)).idxOf x]'hl2, ?_, List.getElem?_eq_getElem hl2, ?_⟩
    · unfold idxI
      rw [if_pos h]
    · rw [List.getElem_map] at hg
      exact hg
  · exact .inl (idxI_miss h)

/-- The first change that doesn't fit, and why. -/
def cbG (rels : List Rln) : List Chg → Nat → Int × Int
  | [], _ => (0, 0)
  | c :: l, i => if fitD rels c.rel c.row = 0 then cbG rels l (i + 1) else ((i : Int), fitD rels c.rel c.row)
def chkBt (b : List Chg) (rels : List Rln) : Int × Int := if 256 < b.length then (0, 100) else cbG rels b 0
theorem cbG_step {rels : List Rln} {b : List Chg} {k : Nat} {c : Chg} (h : b[k]? = some c) (h0 : fitD rels c.rel c.row = 0) : cbG rels (b.drop k) k = cbG rels (b.drop (k + 1)) (k + 1) := by
  have hk := (List.getElem?_eq_some_iff.1 h).1
  have e := (List.getElem?_eq_some_iff.1 h).2
  rw [List.drop_eq_getElem_cons hk, e, cbG, if_pos h0]
theorem cbG_hit {rels : List Rln} {b : List Chg} {k : Nat} {c : Chg} (h : b[k]? = some c) (h0 : fitD rels c.rel c.row ≠ 0) : cbG rels (b.drop k) k = ((k : Int), fitD rels c.rel c.row) := by
  have hk := (List.getElem?_eq_some_iff.1 h).1
  have e := (List.getElem?_eq_some_iff.1 h).2
  rw [List.drop_eq_getElem_cons hk, e, cbG, if_neg h0]
end Go.Proofs.YtgilflkgibfjgaaDoor
