/- A list of rows as an argument, opened. -/
import Derived.Test.YtgilflkgibfjgaaDoorGl
import Derived.Test.YtgilflkgibfjgaaDoorGh
namespace Go.Proofs.YtgilflkgibfjgaaDoor
open Go.ChangeShapes Go.WideShapes Go.ChangeAt Go.RowKit Go.Deep
set_option linter.unusedVariables false

/-- A row's cell. -/
def VRowC (w : World) (cells : List Value) (r : List Vl) : Prop := ∃ rv, cells = [rv] ∧ RowAt w rv 3 (r.map Vl.cells) ∧ r.length ≤ 4398046511104
/-- A slice of rows. -/
def RowsAt (w : World) (v : Value) (l : List (List Vl)) : Prop := ∃ rows, RowAt w v 1 rows ∧ All2 (VRowC w) rows l
theorem VRowC.keep {w w' : World} {row : List Value} {a : List Vl} (h : VRowC w row a) (hb : Below w.heap.size w w') : VRowC w' row a := by
  obtain ⟨cv, rfl, h2, h3⟩ := h
  exact ⟨cv, rfl, RowAt.keep h2 hb, h3⟩
theorem RowsAt.keep {w w' : World} {v : Value} {l : List (List Vl)} (h : RowsAt w v l) (hb : Below w.heap.size w w') : RowsAt w' v l := by
  obtain ⟨rows, h1, h2⟩ := h
  exact ⟨rows, h1.keep hb, h2.mono fun b a hh => hh.keep hb⟩
theorem RowsAt.form {w : World} {v : Value} {l : List (List Vl)} (h : RowsAt w v l) : ∃ (ad : Option Addr) (cap : Nat), v = .slice ad l.length cap ∧ l.length ≤ cap ∧ cap ≤ maxLen := by
  obtain ⟨rows, h1, h2⟩ := h
  obtain ⟨ad, cap, hv, h3, h4⟩ := h1.form
  rw [h2.length] at hv h3
  exact ⟨ad, cap, hv, h3, h4⟩
theorem RowsAt.get {w : World} {v : Value} {l : List (List Vl)} (h : RowsAt w v l) {i : Nat} {a : List Vl} (hi : l[i]? = some a) : ∃ (b off cap : Nat) (rv : Value), v = .slice (some ⟨b, off, none⟩) l.length cap ∧ l.length ≤ cap ∧ cap ≤ maxLen ∧ b < w.heap.size ∧
    w.cell? ⟨b, off + i * 1, none⟩ = some rv ∧ RowAt w rv 3 (a.map Vl.cells) ∧ a.length ≤ 4398046511104 := by
  obtain ⟨rows, h1, h2⟩ := h
  obtain ⟨row, hr, rv, rfl, h3, h4⟩ := h2.get hi
  obtain ⟨b, off, cap, hv, h5, h6, h7, h8⟩ := h1.get hr
  rw [h2.length] at hv h5
  exact ⟨b, off, cap, rv, hv, h5, h6, h7, h8 0 _ rfl, h3, h4⟩
section
variable {H : Type} {enc : TypeId × Value → H} {w : World} {spare : Nat → Bool} {held : Bool}
set_option maxRecDepth 100000 in
theorem rows_arg {base : Nat} {v : Value} {d : DataW H} {p : List MemPlace} (hv : Value.okWide Tryd.prog w .any base 30 v) (h : DataW.Trod enc Tryd.prog w 0 spare held 30 v d p) (hs : Sz Tryd.prog 30 d) :
    ∃ l : List (List Vl), RowsAt w v l ∧ l.length ≤ 5864062014805 := by
  have hb : Tryd.prog.bytesOf 35 = 24 := by kernel_rfl
  obtain ⟨a0, len, cap, rfl⟩ := okWide_slice Tryd.underlying30 hv
  obtain ⟨n, hn⟩ := h
  obtain ⟨rows, hr, hd⟩ := open_rows (sz := 1) (x := (d, p)) Tryd.underlying30 (by kernel_rfl) (by decide) (by simpa [Value.cells] using hn) (fun el sp e => by
    have e' : d = .slice el sp := e
    have hs' := hs
    rw [e'] at hs'
    have := hs'.len Tryd.underlying30
    rw [hb] at this
    omega)
  rcases hd with ⟨rfl, _⟩ | ⟨el, sp, e, hl, hi⟩
  · exact ⟨[], ⟨[], hr, trivial⟩, Nat.zero_le _⟩
  · have e' : d = .slice el sp := e
    have hs' := hs
    rw [e'] at hs'
    have hse := fun d' (hd : d' ∈ el) => hs'.elem Tryd.underlying30 hd
    have hle := hs'.len Tryd.underlying30
    rw [hb, hl] at hle
    obtain ⟨al, hal⟩ := all2_of (fun (row : List Value) (a : List Vl) => VRowC w row a) rows (fun row hrow => by
      obtain ⟨i, hi'⟩ := List.getElem?_of_mem hrow
      obtain ⟨hl1, n', d', Pl, hdi, hti⟩ := hi i row hi'
      obtain ⟨y, rfl⟩ : ∃ y, row = [y] := by
        match row, hl1 with
        | [y], _ => exact ⟨y, rfl⟩
      obtain ⟨vs, h1, h2, _⟩ := vals_open Tryd.underlying35 hti (hse _ (List.mem_of_getElem? hdi))
      exact ⟨vs, y, rfl, h1, h2⟩)
    have hll := hal.length
    exact ⟨al, ⟨rows, hr, hal⟩, by omega⟩
end
end Go.Proofs.YtgilflkgibfjgaaDoor
