/- A relation as an argument, opened. A list of relations as an argument, opened. -/
import Derived.Test.YtgilflkgibfjgaaDoorGh
import Derived.Test.YtgilflkgibfjgaaDoorKa
import Derived.Test.YtgilflkgibfjgaaDoorGl
import Derived.Test.YtgilflkgibfjgaaDoorRw
namespace Go.Proofs.YtgilflkgibfjgaaDoor
open Go.ChangeShapes Go.WideShapes Go.ChangeAt Go.RowKit Go.Deep
set_option linter.unusedVariables false
section
variable {H : Type} {enc : TypeId × Value → H} {w : World} {spare : Nat → Bool} {held : Bool}
set_option maxRecDepth 100000 in
theorem col_open {n : Nat} {row : List Value} {d : DataW H} {Pl : List MemPlace} (h : DataW.trod enc Tryd.prog w 0 spare held n 72 row = some (d, Pl)) :
    ∃ c : Col, row = c.cells ∧ d = .agg [.lit (.string c.x), .lit (.int .i64 c.k)] := by
  obtain ⟨y0, y1, m, hx, hl, h0, h1⟩ := trod_struct2 Tryd.underlying72 h
  have hc : Tryd.prog.cellsOf 72 = 2 := by kernel_rfl
  have c0 : Tryd.prog.cellsOf 9 = 1 := by kernel_rfl
  have c1 : Tryd.prog.cellsOf 43 = 1 := by kernel_rfl
  rw [hc] at hl
  obtain ⟨a, b, rfl⟩ := len2 hl
  · simp only [c0, c1, List.drop_zero, List.take_succ_cons, List.take_zero, List.drop_succ_cons] at h0 h1
    obtain ⟨s, e0, f0, _⟩ := DataW.trod_string Tryd.underlying9 h0
    obtain ⟨k, e1, f1, wq⟩ := DataW.trod_int Tryd.underlying43 h1
    simp only [List.cons.injEq, and_true] at e0 e1
    subst e0 e1
    refine ⟨⟨s.data.toList, k⟩, by simp [Col.cells], ?_⟩
    simp only [Prod.mk.injEq] at hx
    rw [hx.1, f0, f1]
theorem col_small {c : Col} {d : DataW H} (hd : d = .agg [.lit (.string c.x), .lit (.int .i64 c.k)]) (h : Sz Tryd.prog 72 d) : c.x.length ≤ 140737488351232 := by
  subst hd
  have h1 := (h.field Tryd.underlying72 (j := 0) (u := 9) (d := .lit (.string c.x)) rfl rfl) c.x.length (by simp [DataW.weights])
  simpa [reachBytes] using h1
set_option maxRecDepth 100000 in
theorem cols_open {t : TypeId} {fuel : Nat} {v : Value} {x : DataW H × List MemPlace} (ht : Tryd.prog.underlying t = some (.slice 72)) (h : DataW.trod enc Tryd.prog w 0 spare held fuel t [v] = some x) (hs : Sz Tryd.prog t x.1) :
    ∃ cs : List Col, ColsAt w v cs ∧ cs.length ≤ 5864062014634 ∧ ∀ c ∈ cs, c.x.length ≤ 140737488351232 := by
  have hb : Tryd.prog.bytesOf 72 = 24 := by kernel_rfl
  obtain ⟨rows, hr, hd⟩ := open_rows (sz := 2) ht (by kernel_rfl) (by decide) h (fun el sp e => by
    have := (e ▸ hs).len ht
    rw [hb] at this
    omega)
  rcases hd with ⟨rfl, _⟩ | ⟨el, sp, e, hl, hi⟩
  · exact ⟨[], hr, Nat.zero_le _, by simp⟩
  · have hle := (e ▸ hs).len ht
    rw [hb, hl] at hle
    obtain ⟨m, hm⟩ := list_as (α := {u : Col // u.x.length ≤ 140737488351232}) (fun u => u.1.cells) rows (fun row hrow => by
      obtain ⟨i, hi'⟩ := List.getElem?_of_mem hrow
      obtain ⟨_, n, d, Pl, h1, h2⟩ := hi i row hi'
      obtain ⟨u, h3, h4⟩ := col_open h2
      exact ⟨⟨u, col_small h4 ((e ▸ hs).elem ht (List.mem_of_getElem? h1))⟩, h3⟩)
    subst hm
    refine ⟨m.map (·.1), by simpa [ColsAt, Function.comp_def] using hr, by simp at hle ⊢; omega, fun u hu => ?_⟩
    obtain ⟨q, _, rfl⟩ := List.mem_map.1 hu
    exact q.2
set_option maxRecDepth 100000 in
theorem rel_arg {base : Nat} {v : Value} {d : DataW H} {p : List MemPlace} (hv : Value.okWide Tryd.prog w .any base 64 v) (h : DataW.Trod enc Tryd.prog w 0 spare held 64 v d p) (hs : Sz Tryd.prog 64 d) :
    ∃ (nm : ByteArray) (cv : Value) (cs : List Col), v = .agg #[.string nm, cv] ∧ ColsAt w cv cs ∧ cs.length ≤ 5864062014634 ∧ nm.size ≤ 140737488351232 ∧ ∀ c ∈ cs, c.x.length ≤ 140737488351232 := by
  obtain ⟨cs0, rfl, hsz⟩ := okWide_struct Tryd.underlying64 hv
  obtain ⟨n, hn⟩ := h
  obtain ⟨y0, y1, m, hx, hl, h0, h1⟩ := trod_struct2 Tryd.underlying64 hn
  have hc : Tryd.prog.cellsOf 64 = 2 := by kernel_rfl
  have c0 : Tryd.prog.cellsOf 9 = 1 := by kernel_rfl
  have c1 : Tryd.prog.cellsOf 62 = 1 := by kernel_rfl
  rw [hc] at hl
  simp only [Prod.mk.injEq] at hx
  rw [hx.1] at hs
  obtain ⟨a, b, hab⟩ := len2 hl
  have hcs : cs0 = #[a, b] := by
    apply Array.toList_inj.1
    exact hab
  subst hcs
  simp only [Value.cells, c0, c1, List.drop_zero, List.take_succ_cons, List.take_zero, List.drop_succ_cons] at h0 h1
  obtain ⟨s, e0, f0, _⟩ := DataW.trod_string Tryd.underlying9 h0
  simp only [List.cons.injEq, and_true] at e0
  subst e0
  obtain ⟨l, h2, h3, h4⟩ := cols_open Tryd.underlying62 h1 (hs.field Tryd.underlying64 (j := 1) rfl rfl)
  have h5 := (hs.field Tryd.underlying64 (j := 0) (u := 9) (d := .lit (.string s.data.toList)) rfl (by rw [f0]; rfl)) s.data.toList.length (by simp [DataW.weights])
  exact ⟨s, b, l, rfl, h2, h3, by simpa [reachBytes] using h5, h4⟩
end
end Go.Proofs.YtgilflkgibfjgaaDoor
namespace Go.Proofs.YtgilflkgibfjgaaDoor
open Go.ChangeShapes Go.WideShapes Go.ChangeAt Go.RowKit Go.Deep
set_option linter.unusedVariables false
section
variable {H : Type} {enc : TypeId × Value → H} {w : World} {spare : Nat → Bool} {held : Bool}
set_option maxRecDepth 100000 in
theorem rel_open {n : Nat} {row : List Value} {d : DataW H} {Pl : List MemPlace} (h : DataW.trod enc Tryd.prog w 0 spare held n 64 row = some (d, Pl)) (hs : Sz Tryd.prog 64 d) :
    ∃ a : Rln, RelC w row a ∧ a.name.length ≤ 140737488351232 ∧ ∀ c ∈ a.cols, c.x.length ≤ 140737488351232 := by
  obtain ⟨y0, y1, m, hx, hl, h0, h1⟩ := trod_struct2 Tryd.underlying64 h
  have hc : Tryd.prog.cellsOf 64 = 2 := by kernel_rfl
  have c0 : Tryd.prog.cellsOf 9 = 1 := by kernel_rfl
  have c1 : Tryd.prog.cellsOf 62 = 1 := by kernel_rfl
  rw [hc] at hl
  simp only [Prod.mk.injEq] at hx
  rw [hx.1] at hs
  obtain ⟨a, b, rfl⟩ := len2 hl
  simp only [c0, c1, List.drop_zero, List.take_succ_cons, List.take_zero, List.drop_succ_cons] at h0 h1
  obtain ⟨s, e0, f0, _⟩ := DataW.trod_string Tryd.underlying9 h0
  simp only [List.cons.injEq, and_true] at e0
  subst e0
  obtain ⟨l, h2, h3, h4⟩ := cols_open Tryd.underlying62 h1 (hs.field Tryd.underlying64 (j := 1) rfl rfl)
  have h5 := (hs.field Tryd.underlying64 (j := 0) (u := 9) (d := .lit (.string s.data.toList)) rfl (by rw [f0]; rfl)) s.data.toList.length (by simp [DataW.weights])
  exact ⟨⟨s.data.toList, l⟩, ⟨b, by simp, h2, h3⟩, by simpa [reachBytes] using h5, h4⟩
set_option maxRecDepth 100000 in
theorem rels_arg {base : Nat} {v : Value} {d : DataW H} {p : List MemPlace} (hv : Value.okWide Tryd.prog w .any base 74 v) (h : DataW.Trod enc Tryd.prog w 0 spare held 74 v d p) (hs : Sz Tryd.prog 74 d) :
    ∃ l : List Rln, RelsAt w v l ∧ (∀ c ∈ l, c.name.length ≤ 140737488351232 ∧ ∀ x ∈ c.cols, x.x.length ≤ 140737488351232) ∧ l.length ≤ 3518437208780 := by
  have hb : Tryd.prog.bytesOf 64 = 40 := by kernel_rfl
  obtain ⟨a0, len, cap, rfl⟩ := okWide_slice Tryd.underlying74 hv
  obtain ⟨n, hn⟩ := h
  obtain ⟨rows, hr, hd⟩ := open_rows (sz := 2) (x := (d, p)) Tryd.underlying74 (by kernel_rfl) (by decide) (by simpa [Value.cells] using hn) (fun el sp e => by
    have e' : d = .slice el sp := e
    have hs' := hs
    rw [e'] at hs'
    have := hs'.len Tryd.underlying74
    rw [hb] at this
    omega)
  rcases hd with ⟨rfl, _⟩ | ⟨el, sp, e, hl, hi⟩
  · exact ⟨[], ⟨[], hr, trivial⟩, by simp, Nat.zero_le _⟩
  · have e' : d = .slice el sp := e
    have hs' := hs
    rw [e'] at hs'
    have hse := fun d' (hd : d' ∈ el) => hs'.elem Tryd.underlying74 hd
    have hle := hs'.len Tryd.underlying74
    rw [hb, hl] at hle
    obtain ⟨al, hal⟩ := all2_of (fun (row : List Value) (a : {a : Rln // a.name.length ≤ 140737488351232 ∧ ∀ c ∈ a.cols, c.x.length ≤ 140737488351232}) => RelC w row a.1) rows (fun row hrow => by
      obtain ⟨i, hi'⟩ := List.getElem?_of_mem hrow
      obtain ⟨_, n', d', Pl, hdi, hti⟩ := hi i row hi'
      obtain ⟨a, h1, h2⟩ := rel_open hti (hse _ (List.mem_of_getElem? hdi))
      exact ⟨⟨a, h2⟩, h1⟩)
    have h2 : All2 (RelC w) rows (al.map (·.1)) := by
      clear hi hse hl hle hr
      induction rows generalizing al with
      | nil => cases al with
        | nil => trivial
        | cons _ _ => exact hal.elim
      | cons p z ih => cases al with
        | nil => exact hal.elim
        | cons a al => exact ⟨hal.1, ih al hal.2⟩
    have hll := h2.length
    refine ⟨al.map (·.1), ⟨rows, hr, h2⟩, fun c hc => ?_, by omega⟩
    obtain ⟨q, _, rfl⟩ := List.mem_map.1 hc
    exact q.2
end
end Go.Proofs.YtgilflkgibfjgaaDoor
