/- A batch as an argument, opened: its texts are bounded too. -/
import Derived.Test.YtgjknekoehfdfaaGreatDoorGl
namespace Go.Proofs.YtgjknekoehfdfaaGreatDoor
open Go.ChangeShapes Go.WideShapes Go.ChangeAt Go.RowKit Go.Deep
set_option linter.unusedVariables false
section
variable {H : Type} {enc : TypeId × Value → H} {w : World} {spare : Nat → Bool} {held : Bool}
theorem vl_small {u : Vl} {d : DataW H} (hd : d = .agg [.lit (.int .i64 u.k), .lit (.int .i64 u.n), .lit (.string u.t)]) (h : Sz Tryz.prog 74 d) : u.t.length ≤ 140737488351232 := by
  subst hd
  have h1 := (h.field Tryz.underlying74 (j := 2) (u := 9) (d := .lit (.string u.t)) rfl rfl) u.t.length (by simp [DataW.weights])
  simpa [reachBytes] using h1
set_option maxRecDepth 100000 in
theorem vals_openT {t : TypeId} {fuel : Nat} {v : Value} {x : DataW H × List MemPlace} (ht : Tryz.prog.underlying t = some (.slice 74)) (h : DataW.trod enc Tryz.prog w 0 spare held fuel t [v] = some x) (hs : Sz Tryz.prog t x.1) :
    ∃ vs : List Vl, RowAt w v 3 (vs.map Vl.cells) ∧ vs.length ≤ 4398046511104 ∧ ∀ u ∈ vs, RangeV u ∧ u.t.length ≤ 140737488351232 := by
  have hb : Tryz.prog.bytesOf 74 = 32 := by kernel_rfl
  obtain ⟨rows, hr, hd⟩ := open_rows (sz := 3) ht (by kernel_rfl) (by decide) h (fun el sp e => by
    have := (e ▸ hs).len ht
    rw [hb] at this
    omega)
  rcases hd with ⟨rfl, _⟩ | ⟨el, sp, e, hl, hi⟩
  · exact ⟨[], hr, Nat.zero_le _, by simp⟩
  · have hle := (e ▸ hs).len ht
    rw [hb, hl] at hle
    obtain ⟨m, hm⟩ := list_as (α := {u : Vl // RangeV u ∧ u.t.length ≤ 140737488351232}) (fun u => u.1.cells) rows (fun row hrow => by
      obtain ⟨i, hi'⟩ := List.getElem?_of_mem hrow
      obtain ⟨_, n, d, Pl, h1, h2⟩ := hi i row hi'
      obtain ⟨u, h3, h4, h5⟩ := vl_open h2
      exact ⟨⟨u, h4, vl_small h5 ((e ▸ hs).elem ht (List.mem_of_getElem? h1))⟩, h3⟩)
    subst hm
    refine ⟨m.map (·.1), by simpa [Function.comp_def] using hr, by simp at hle ⊢; omega, fun u hu => ?_⟩
    obtain ⟨q, _, rfl⟩ := List.mem_map.1 hu
    exact q.2
set_option maxRecDepth 100000 in
theorem chg_openT {n : Nat} {row : List Value} {d : DataW H} {Pl : List MemPlace} (h : DataW.trod enc Tryz.prog w 0 spare held n 30 row = some (d, Pl)) (hs : Sz Tryz.prog 30 d) :
    ∃ a : Chg, ChgC w row a ∧ (∀ u ∈ a.row, RangeV u ∧ u.t.length ≤ 140737488351232) ∧ a.rel.length ≤ 140737488351232 := by
  obtain ⟨y0, y1, y2, m, hx, hl, h0, h1, h2⟩ := trod_struct3 Tryz.underlying30 h
  have hc : Tryz.prog.cellsOf 30 = 3 := by kernel_rfl
  have c0 : Tryz.prog.cellsOf 4 = 1 := by kernel_rfl
  have c1 : Tryz.prog.cellsOf 9 = 1 := by kernel_rfl
  have c2 : Tryz.prog.cellsOf 28 = 1 := by kernel_rfl
  rw [hc] at hl
  simp only [Prod.mk.injEq] at hx
  rw [hx.1] at hs
  obtain ⟨a, b, c, rfl⟩ := len3 hl
  · simp only [c0, c1, c2, List.drop_zero, List.take_succ_cons, List.take_zero, List.drop_succ_cons] at h0 h1 h2
    obtain ⟨ad, e0, f0⟩ := DataW.trod_bool Tryz.underlying4 h0
    obtain ⟨s, e1, f1, _⟩ := DataW.trod_string Tryz.underlying9 h1
    simp only [List.cons.injEq, and_true] at e0 e1
    subst e0 e1
    have hsz : s.data.toList.length ≤ 140737488351232 := by
      have h1' := (hs.field Tryz.underlying30 (j := 1) (u := 9) (d := .lit (.string s.data.toList)) rfl (by rw [f1]; rfl)) s.data.toList.length (by simp [DataW.weights])
      simpa [reachBytes] using h1'
    obtain ⟨vs, hr, hn, hw⟩ := vals_openT Tryz.underlying28 h2 (hs.field Tryz.underlying30 (j := 2) rfl rfl)
    exact ⟨⟨ad, s.data.toList, vs⟩, ⟨c, by simp, hr, hn⟩, hw, hsz⟩
set_option maxRecDepth 100000 in
theorem batch_argT {base : Nat} {v : Value} {d : DataW H} {p : List MemPlace} (hv : Value.okWide Tryz.prog w .any base 22 v) (h : DataW.Trod enc Tryz.prog w 0 spare held 22 v d p) (hs : Sz Tryz.prog 22 d) :
    ∃ l : List Chg, ChgsAt w v l ∧ RangeB l ∧ (∀ c ∈ l, c.rel.length ≤ 140737488351232 ∧ ∀ u ∈ c.row, u.t.length ≤ 140737488351232) ∧ l.length ≤ 2932031007402 := by
  have hb : Tryz.prog.bytesOf 30 = 48 := by kernel_rfl
  obtain ⟨a0, len, cap, rfl⟩ := okWide_slice Tryz.underlying22 hv
  obtain ⟨n, hn⟩ := h
  obtain ⟨rows, hr, hd⟩ := open_rows (sz := 3) (x := (d, p)) Tryz.underlying22 (by kernel_rfl) (by decide) (by simpa [Value.cells] using hn) (fun el sp e => by
    have e' : d = .slice el sp := e
    have hs' := hs
    rw [e'] at hs'
    have := hs'.len Tryz.underlying22
    rw [hb] at this
    omega)
  rcases hd with ⟨rfl, _⟩ | ⟨el, sp, e, hl, hi⟩
  · exact ⟨[], ⟨[], hr, trivial⟩, fun c hc => by simp at hc, by simp, Nat.zero_le _⟩
  · have e' : d = .slice el sp := e
    have hs' := hs
    rw [e'] at hs'
    have hse := fun d' (hd : d' ∈ el) => hs'.elem Tryz.underlying22 hd
    have hle := hs'.len Tryz.underlying22
    rw [hb, hl] at hle
    obtain ⟨al, hal⟩ := all2_of (fun (row : List Value) (a : {a : Chg // (∀ u ∈ a.row, RangeV u ∧ u.t.length ≤ 140737488351232) ∧ a.rel.length ≤ 140737488351232}) => ChgC w row a.1) rows (fun row hrow => by
      obtain ⟨i, hi'⟩ := List.getElem?_of_mem hrow
      obtain ⟨_, n', d', Pl, hdi, hti⟩ := hi i row hi'
      obtain ⟨a, h1, h2, h3⟩ := chg_openT hti (hse _ (List.mem_of_getElem? hdi))
      exact ⟨⟨a, h2, h3⟩, h1⟩)
    have h2 : All2 (ChgC w) rows (al.map (·.1)) := by
      clear hi hse hl hle hr
      induction rows generalizing al with
      | nil => cases al with
        | nil => trivial
        | cons _ _ => exact hal.elim
      | cons p z ih => cases al with
        | nil => exact hal.elim
        | cons a al => exact ⟨hal.1, ih al hal.2⟩
    have hll := h2.length
    refine ⟨al.map (·.1), ⟨rows, hr, h2⟩, fun c hc u hu => ?_, fun c hc => ?_, by omega⟩
    · obtain ⟨q, _, rfl⟩ := List.mem_map.1 hc
      exact (q.2.1 u hu).1
    · obtain ⟨q, _, rfl⟩ := List.mem_map.1 hc
      exact ⟨q.2.2, fun u hu => (q.2.1 u hu).2⟩
end
end Go.Proofs.YtgjknekoehfdfaaGreatDoor
